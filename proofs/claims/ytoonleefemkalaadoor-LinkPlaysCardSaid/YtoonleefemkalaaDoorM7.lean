import Derived.Test.YtoonleefemkalaaDoorM6
import Derived.SizedLaws
import Derived.ChangeArms
import Derived.DataReads
/- Contracts of functions. Conditions: none. -/
set_option linter.unusedSimpArgs false
set_option linter.unusedVariables false
namespace Go.Proofs.YtoonleefemkalaaDoor.E
open Go Go.RowKit
def D.mk (P:Program) (e:TypeId) (ds:List D):D:=match P.underlying e with | some (.struct _)=>.agg ds | _=>ds.headD .nil
inductive DT (P:Program):TypeId→List D→Prop
 | bool (t:TypeId) (b:Bool):P.underlying t=some .bool→DT P t [.bool b]
 | int (t:TypeId) (k:IntKind) (n:Int):P.underlying t=some (.int k)→(Lit.int k n).wf=true→DT P t [.int k n]
 | str (t:TypeId) (s:ByteArray):P.underlying t=some .string→s.size≤reachBytes→DT P t [.str s]
 | nil (t e:TypeId):P.underlying t=some (.pointer e)→DT P t [.nil]
 | ptr (t e:TypeId) (ds:List D):P.underlying t=some (.pointer e)→DT P e ds→DT P t [.ptr (D.mk P e ds)]
 | sl (t e:TypeId) (dss:List (List D)):P.underlying t=some (.slice e)→dss.length≤reachBytes→(∀ (i:Nat) ds,dss[i]? = some ds→DT P e ds)→DT P t [.sl (dss.map (D.mk P e))]
 | struct (t:TypeId) (fs:Array Field) (ds:List D):P.underlying t=some (.struct fs)→ds.length=P.cellsOf t→
  (∀ (i:Nat) f,fs[i]? = some f→DT P f.type ((ds.drop f.offset).take (P.cellsOf f.type)))→DT P t ds
variable {P:Program} {e:TypeId}
theorem DT.cells {ds:List D} (h:DT P e ds):(D.mk P e ds).cells=ds:=by
 cases h with
 | bool _ b hu=>simp [D.mk,hu,D.cells]
 | int _ k n hu=>simp [D.mk,hu,D.cells]
 | str _ s hu=>simp [D.mk,hu,D.cells]
 | nil _ _ hu=>simp [D.mk,hu,D.cells]
 | ptr _ _ ds hu=>simp [D.mk,hu,D.cells]
 | sl _ _ dss hu=>simp [D.mk,hu,D.cells]
 | struct _ fs ds hu=>simp [D.mk,hu,D.cells]
def layoutEnd (P:Program):Nat→List Field→Option Nat
 | off,[]=>some off
 | off,f :: r=>if f.offset=off then layoutEnd P (off + P.cellsOf f.type) r else none
theorem layout_le:∀ (fl:List Field) (off n:Nat),layoutEnd P off fl=some n→off≤n∧∀ f ∈ fl,off≤f.offset∧f.offset + P.cellsOf f.type≤n
 | [],off,n,h=>by simp only [layoutEnd] at h;injection h with h;exact ⟨by omega,fun f hf=>by cases hf⟩
 | f :: r,off,n,h=>by
  simp only [layoutEnd] at h
  split at h
  · rename_i ho
    obtain ⟨h1,h2⟩:=layout_le r _ n h
    refine ⟨by omega,fun g hg=>?_⟩
    rcases List.mem_cons.1 hg with rfl | hg
    · omega
    · have:=h2 g hg;omega
  · cases h
def closedT (P:Program) (L:List TypeId):Bool:=L.all fun t=>match P.underlying t with
 | some .bool | some (.int _) | some .string=>true
 | some (.pointer e)=>L.contains e && decide (0 < P.cellsOf e)
 | some (.slice e)=>L.contains e && decide (0 < P.bytesOf e)
 | some (.struct fs)=>fs.toList.all (fun f=>L.contains f.type) && (layoutEnd P 0 fs.toList == some (P.cellsOf t))
 | _=>false
def Good (P:Program) (w:World) (t:TypeId) (cs:List Value):Prop:=
 ∃ ds,DT P t ds∧ds.length=cs.length∧∀ (i:Nat) d v,ds[i]? = some d→cs[i]? = some v→Rd w (allOf w) d v∧v.oneCell'=true
variable {w:World}
theorem spot_of {a:Addr} {v:Value} (h:w.cell? a=some v):a.spot=none∧a.block < w.heap.size:=by
 unfold World.cell? at h
 split at h
 · rename_i c _ _ hb
   refine ⟨?_,(Array.getElem?_eq_some_iff.1 hb).1⟩
   split at h
   · cases h
   · rename_i hs;cases hsp:a.spot with
     | none=>rfl
     | some x=>simp [hsp] at hs
 · cases h
variable {t:TypeId}
theorem one {d:D} {v:Value} (hd:DT P t [d]) (hr:Rd w (allOf w) d v) (ho:v.oneCell'=true):Good P w t [v]:=
 ⟨[d],hd,rfl,fun i x u hx hu=>by
  cases i with
  | zero=>simp at hx hu;subst hx;subst hu;exact ⟨hr,ho⟩
  | succ i=>simp at hx⟩
theorem fields_good:∀ (fl:List Field) (off:Nat) (cs:List Value),layoutEnd P off fl=some (off + cs.length)→
 (∀ f ∈ fl,Good P w f.type ((cs.drop (f.offset - off)).take (P.cellsOf f.type)))→
 ∃ ds:List D,ds.length=cs.length∧(∀ (i:Nat) d v,ds[i]? = some d→cs[i]? = some v→Rd w (allOf w) d v∧v.oneCell'=true)∧
  ∀ f ∈ fl,DT P f.type ((ds.drop (f.offset - off)).take (P.cellsOf f.type))
 | [],off,cs,h,_=>by
  simp only [layoutEnd] at h
  injection h with h
  have:cs=[]:=List.eq_nil_of_length_eq_zero (by omega)
  subst this
  exact ⟨[],rfl,fun i d v hd=>by simp at hd,fun f hf=>by cases hf⟩
 | f :: r,off,cs,h,hg=>by
  simp only [layoutEnd] at h
  split at h
  · rename_i ho
    obtain ⟨hle,hin⟩:=layout_le r _ _ h
    have hc:P.cellsOf f.type≤cs.length:=by omega
    obtain ⟨ds1,ht1,hl1,hr1⟩:=hg f (List.mem_cons_self ..)
    rw [show f.offset - off=0 by omega,List.drop_zero] at hl1 hr1
    rw [List.length_take,Nat.min_eq_left hc] at hl1
    have h':layoutEnd P (off + P.cellsOf f.type) r=some (off + P.cellsOf f.type + (cs.drop (P.cellsOf f.type)).length):=by
     rw [h,List.length_drop];congr 1;omega
    obtain ⟨ds2,hl2,hr2,ht2⟩:=fields_good r (off + P.cellsOf f.type) (cs.drop (P.cellsOf f.type)) h' (fun g hgm=>by
     have:=hg g (List.mem_cons_of_mem _ hgm)
     rw [List.drop_drop,show P.cellsOf f.type + (g.offset - (off + P.cellsOf f.type))=g.offset - off by have:=hin g hgm;omega]
     exact this)
    rw [List.length_drop] at hl2
    have hdt:∀ g:Field,(off + P.cellsOf f.type≤g.offset)→(ds1++ds2).drop (g.offset - off)=ds2.drop (g.offset - (off + P.cellsOf f.type)):=by
     intro g hgo
     rw [List.drop_append,List.drop_eq_nil_of_le (by omega),List.nil_append]
     congr 1;omega
    refine ⟨ds1++ds2,by rw [List.length_append];omega,fun i d v hd hv=>?_,fun g hgm=>?_⟩
    · by_cases hi:i < ds1.length
      · rw [List.getElem?_append_left hi] at hd
        exact hr1 i d v hd (by rw [List.getElem?_take,if_pos (by omega)];exact hv)
      · rw [List.getElem?_append_right (by omega)] at hd
        exact hr2 (i - ds1.length) d v hd (by rw [List.getElem?_drop,← hl1];rw [show ds1.length + (i - ds1.length)=i by omega];exact hv)
    · rcases List.mem_cons.1 hgm with rfl | hgm
      · rw [show g.offset - off=0 by omega,List.drop_zero,← hl1,List.take_left];rw [hl1] at *;exact ht1
      · rw [hdt g (hin g hgm).1];exact ht2 g hgm
  · cases h
variable {H:Type}
theorem weights_mem_all:∀ {ds:List (DataW H)} {d:DataW H},d ∈ ds→∀ n ∈ d.weights P e,n ∈ DataW.weightsAll P e ds
 | x :: r,d,h,n,hn=>by
  simp only [DataW.weightsAll,List.mem_append]
  rcases List.mem_cons.1 h with rfl | h
  · exact .inl hn
  · exact .inr (weights_mem_all h n hn)
theorem read {enc:TypeId×Value→H} {base:Nat} {sp:Nat→Bool} {held:Bool} {L:List TypeId} (hL:closedT P L=true):
 ∀ (fuel:Nat) (t:TypeId) (cs:List Value) (x:DataW H×List MemPlace),t ∈ L→DataW.trod enc P w base sp held fuel t cs=some x→(∀ n ∈ x.1.weights P t,n≤reachBytes)→Good P w t cs:=by
 intro fuel
 induction fuel with
 | zero=>intro t cs x _ h;simp [DataW.trod] at h
 | succ fuel ih=>
  intro t cs x ht h hw
  have hc:=List.all_eq_true.1 hL t ht
  cases hu:P.underlying t with
  | none=>rw [hu] at hc;cases hc
  | some desc=>
   rw [hu] at hc
   cases desc with
   | bool=>
    obtain ⟨b,rfl,rfl⟩:=DataW.trod_bool hu h
    exact one (.bool t b hu) (.bool b) rfl
   | int k=>
    obtain ⟨n,rfl,rfl,hwf⟩:=DataW.trod_int hu h
    exact one (.int t k n hu hwf) (.int k n) rfl
   | string=>
    obtain ⟨s,rfl,rfl,_⟩:=DataW.trod_string hu h
    have:=hw s.data.toList.length (by simp [DataW.weights])
    have hs:s.size≤reachBytes:=by rw [Array.length_toList] at this;exact this
    exact one (.str t s hu hs) (.str s) rfl
   | pointer e=>
    simp only [Bool.and_eq_true,decide_eq_true_eq,List.contains_iff_mem] at hc
    rcases DataW.trod_pointer hu h with ⟨rfl,rfl⟩ | ⟨a,cs',y,n,hn,rfl,rfl,hcells,ht'⟩
    · exact one (.nil t e hu) .nil rfl
    · obtain rfl:fuel=n:=by omega
      obtain ⟨_,hlen,hat⟩:=World.cells?_some hcells
      obtain ⟨ds,hdt,hdl,hrd⟩:=ih e cs' y hc.1 ht' (fun m hm=>hw m (by simpa [DataW.weights,hu] using hm))
      have hcell:∀ (j:Nat),j < cs'.length→∃ v,cs'[j]? = some v∧w.cell? (a.add j)=some v:=fun j hj=>
       ⟨_,gE hj,by rw [hat j (by omega)];exact gE hj⟩
      obtain ⟨v0,_,hv0⟩:=hcell 0 (by omega)
      have hsp:a.spot=none:=by have:=(spot_of hv0).1;simpa [Addr.add] using this
      have hadd:∀ j,a.add j=⟨a.block,a.off + j,none⟩:=fun j=>by rw [show a=⟨a.block,a.off,none⟩ by cases a;simp_all];exact add_at _ _ _
      refine one (.ptr t e ds hu hdt) (.ptr _ a hsp (fun j d hj=>?_) (fun j d v hj hv=>?_)) rfl
      · rw [hdt.cells] at hj
        have hjl:=(lG hj)
        obtain ⟨v,hv1,hv2⟩:=hcell j (by omega)
        rw [hadd] at hv2
        exact ⟨(spot_of hv2).2,v,hv2,(hrd j d v hj hv1).2⟩
      · rw [hdt.cells] at hj
        have hjl:=(lG hj)
        obtain ⟨v',hv1,hv2⟩:=hcell j (by omega)
        rw [hadd,hv] at hv2
        injection hv2 with hv2
        subst hv2
        exact (hrd j d v hj hv1).1
   | slice e=>
    simp only [Bool.and_eq_true,decide_eq_true_eq,List.contains_iff_mem] at hc
    rcases DataW.trod_slice hu h with ⟨rfl,rfl⟩ | ⟨a,len,cap,elems,rest,n,hn,rfl,rfl,_,hlc,_,hel,hall,_,_⟩
    · refine one (.sl t e [] hu (by simp [reachBytes]) (fun i ds h=>by simp at h)) ?_ rfl
      exact .sl [] none 0 0 (by simp) (by simp [lim]) (by simp) (fun _=>rfl) (fun _ h=>by cases h) (fun _ _ _ _ _ _ h=>by cases h)
    · obtain rfl:fuel=n:=by omega
      have hlen:len≤reachBytes:=by
       have:=hw ((elems.map (·.1)).length * P.bytesOf e + (rest.map (·.1)).length * P.bytesOf e) (by simp [DataW.weights,hu,Nat.add_mul])
       rw [List.length_map,hel] at this
       have h1:len * 1≤len * P.bytesOf e:=Nat.mul_le_mul_left _ hc.2
       omega
      have hget:∀ i,i < len→∃ cs',w.cells? base (a.add (i * P.cellsOf e)) (P.cellsOf e)=some cs'∧Good P w e cs':=by
       intro i hi
       have hb:=hall i hi
       have he:elems[i]? = some (elems[i]'(by omega)):=gE (by omega)
       rw [he] at hb
       obtain ⟨cs',h1,h2⟩:=Option.bind_eq_some_iff.1 hb
       refine ⟨cs',h1,ih e cs' _ hc.1 h2 (fun m hm=>hw m ?_)⟩
       have hmem:(elems[i]'(by omega)).1 ∈ elems.map (·.1):=List.mem_map_of_mem (List.getElem_mem _)
       simp only [DataW.weights,hu,List.mem_cons,List.mem_append]
       exact .inr (.inl (weights_mem_all hmem m hm))
      have hex:∀ i,∃ ds:List D,i < len→∃ cs',w.cells? base (a.add (i * P.cellsOf e)) (P.cellsOf e)=some cs'∧DT P e ds∧ds.length=cs'.length∧
       ∀ (j:Nat) d v,ds[j]? = some d→cs'[j]? = some v→Rd w (allOf w) d v∧v.oneCell'=true:=fun i=>by
       by_cases hi:i < len
       · obtain ⟨cs',h1,ds,h2⟩:=hget i hi
         exact ⟨ds,fun _=>⟨cs',h1,h2⟩⟩
       · exact ⟨[],fun h=>absurd h hi⟩
      let F:Nat→List D:=fun i=>Classical.choose (hex i)
      have hF:∀ i,i < len→∃ cs',w.cells? base (a.add (i * P.cellsOf e)) (P.cellsOf e)=some cs'∧DT P e (F i)∧(F i).length=cs'.length∧
       ∀ (j:Nat) d v,(F i)[j]? = some d→cs'[j]? = some v→Rd w (allOf w) d v∧v.oneCell'=true:=fun i=>Classical.choose_spec (hex i)
      have hspot:∀ i j,i < len→j < P.cellsOf e→a.spot=none:=by
       intro i j hi hj
       obtain ⟨cs',h1,_⟩:=hF 0 (by omega)
       obtain ⟨_,hl,hat⟩:=World.cells?_some h1
       have:=hat 0 (by omega)
       rw [gE (by omega)] at this
       have:=(spot_of this).1
       simpa [Addr.add] using this
      have hcellF:∀ i j y,i < len→(F i)[j]? = some y→a.spot=none∧∃ v,w.cell? ⟨a.block,a.off + (i * P.cellsOf e + j),none⟩=some v∧Rd w (allOf w) y v∧v.oneCell'=true:=by
       intro i j y hi hj
       obtain ⟨cs',h1,h2,h3,h4⟩:=hF i hi
       obtain ⟨_,hl,hat⟩:=World.cells?_some h1
       have hjl:=(lG hj)
       have hs:=hspot i j hi (by omega)
       have hadd:∀ j,a.add j=⟨a.block,a.off + j,none⟩:=fun j=>by rw [show a=⟨a.block,a.off,none⟩ by cases a;simp_all];exact add_at _ _ _
       have hv:cs'[j]? = some (cs'[j]'(by omega)):=gE (by omega)
       have hc2:=hat j (by omega)
       rw [hv,hadd,add_at,Nat.add_assoc] at hc2
       exact ⟨hs,_,hc2,h4 j y _ hj hv⟩
      have hxs:((List.range len).map F).map (D.mk P e)=(List.range len).map fun i=>D.mk P e (F i):=by rw [List.map_map];rfl
      refine one (d:=.sl (((List.range len).map F).map (D.mk P e))) (.sl t e ((List.range len).map F) hu (by simpa using hlen) (fun i ds hds=>?_)) ?_ rfl
      · rw [List.getElem?_map] at hds
        cases hi:(List.range len)[i]? with
        | none=>simp [hi] at hds
        | some i'=>
         obtain ⟨hlt,rfl⟩:=List.getElem?_eq_some_iff.1 hi
         simp only [hi,Option.map_some,List.getElem_range,Option.some.injEq] at hds
         subst hds
         obtain ⟨_,_,h2,_⟩:=hF i (by simpa using hlt)
         exact h2
      · rw [hxs]
        have hg:∀ (i:Nat) z,((List.range len).map fun i=>D.mk P e (F i))[i]? = some z→i < len∧z.cells=F i:=by
         intro i z hz
         rw [List.getElem?_map] at hz
         cases hi:(List.range len)[i]? with
         | none=>simp [hi] at hz
         | some i'=>
          obtain ⟨hlt,rfl⟩:=List.getElem?_eq_some_iff.1 hi
          simp only [hi,Option.map_some,List.getElem_range,Option.some.injEq] at hz
          subst hz
          obtain ⟨_,_,h2,_⟩:=hF i (by simpa using hlt)
          exact ⟨by simpa using hlt,h2.cells⟩
        have hrl:((List.range len).map fun i=>D.mk P e (F i)).length=len:=by simp
        have key:=Rd.sl (w:=w) (S:=allOf w) ((List.range len).map fun i=>D.mk P e (F i)) (some a) cap (P.cellsOf e) (by rw [hrl];exact hlc) (by rw [hrl];unfold reachBytes at hlen;unfold lim;omega) ?_ (fun h=>by cases h) ?_ ?_
        · rw [hrl] at key;exact key
        · intro z hz
          obtain ⟨i,hi,hz'⟩:=List.mem_iff_getElem?.1 hz |>.imp fun i h=>And.intro h (hg i z h)
          obtain ⟨hil,hcz⟩:=hz'
          obtain ⟨cs',h1,h2,h3,_⟩:=hF i hil
          rw [hcz,h3]
          exact (World.cells?_some h1).2.1
        · intro ad had i z j y hz hy
          injection had with had;subst had
          obtain ⟨hil,hcz⟩:=hg i z hz
          rw [hcz] at hy
          obtain ⟨hs,v,hv,_,ho⟩:=hcellF i j y hil hy
          exact ⟨hs,(spot_of hv).2,v,hv,ho⟩
        · intro ad i z j y v had hz hy hv
          injection had with had;subst had
          obtain ⟨hil,hcz⟩:=hg i z hz
          rw [hcz] at hy
          obtain ⟨_,v',hv',hr',_⟩:=hcellF i j y hil hy
          rw [hv] at hv'
          injection hv' with hv'
          subst hv'
          exact hr'
   | struct fs=>
    simp only [Bool.and_eq_true,List.all_eq_true,List.contains_iff_mem,beq_iff_eq] at hc
    obtain ⟨xs,n,hn,rfl,hlen,hxl,hf⟩:=DataW.trod_struct hu h
    obtain rfl:fuel=n:=by omega
    have hgood:∀ f ∈ fs.toList,Good P w f.type ((cs.drop (f.offset - 0)).take (P.cellsOf f.type)):=by
     intro f hfm
     obtain ⟨i,hi,hfi⟩:=List.mem_iff_getElem.1 hfm
     have hif:fs[i]? = some f:=by rw [← Array.getElem?_toList,gE hi,hfi]
     have hlt:i < fs.size:=(Array.getElem?_eq_some_iff.1 hif).1
     have h1:=hf i f hif
     have hx:xs[i]? = some (xs[i]'(by omega)):=gE (by omega)
     rw [hx] at h1
     rw [Nat.sub_zero]
     refine ih f.type _ _ (hc.1 f hfm) h1 (fun m hm=>hw m ?_)
     simp only [DataW.weights,hu]
     exact DataW.weights_mem_each (j:=i) (t:=f.type) (d:=(xs[i]'(by omega)).1) (by rw [List.getElem?_map,Array.getElem?_toList,hif];rfl) (by rw [List.getElem?_map,hx];rfl) m hm
    obtain ⟨ds,h1,h2,h3⟩:=fields_good fs.toList 0 cs (by rw [hc.2,hlen];simp) hgood
    refine ⟨ds,.struct t fs ds hu (by rw [h1,hlen]) (fun i f hif=>?_),h1,h2⟩
    have:=h3 f (by rw [← Array.getElem?_toList] at hif;exact mG hif)
    rwa [Nat.sub_zero] at this
   | float _=>cases hc
   | _=>cases hc
theorem list_of {α:Type} {f:α→D} {Q:α→Prop} (h:∀ ds,DT P e ds→∃ x,Q x∧D.mk P e ds=f x):
 ∀ (dss:List (List D)),(∀ (i:Nat) ds,dss[i]? = some ds→DT P e ds)→∃ xs:List α,dss.map (D.mk P e)=xs.map f∧(∀ x ∈ xs,Q x)∧xs.length=dss.length
 | [],_=>⟨[],rfl,fun x hx=>(by cases hx),rfl⟩
 | ds :: r,hd=>by
  obtain ⟨x,hq,hx⟩:=h ds (hd 0 ds rfl)
  obtain ⟨xs,h1,h2,h3⟩:=list_of h r (fun i d hi=>hd (i + 1) d (by simpa using hi))
  exact ⟨x :: xs,by simp [hx,h1],fun y hy=>by rcases List.mem_cons.1 hy with rfl | hy;exact hq;exact h2 y hy,by simp [h3]⟩
theorem arg_sl {enc:TypeId×Value→H} {sp:Nat→Bool} {held:Bool} {L:List TypeId} (hL:closedT P L=true) {t e:TypeId} (ht:t ∈ L) (hu:P.underlying t=some (.slice e))
 {a:Option Addr} {len cap:Nat} {d:DataW H} {ps:List MemPlace} (h:DataW.Trod enc P w 0 sp held t (.slice a len cap) d ps) (hw:∀ n ∈ d.weights P t,n≤reachBytes):
 ∃ dss:List (List D),Rd w (allOf w) (.sl (dss.map (D.mk P e))) (.slice a len cap)∧dss.length≤reachBytes∧∀ (i:Nat) ds,dss[i]? = some ds→DT P e ds:=by
 obtain ⟨fuel,hf⟩:=h
 obtain ⟨ds,hdt,hl,hr⟩:=read hL fuel t _ _ ht hf hw
 have hc:(Value.slice a len cap).cells.toList=[Value.slice a len cap]:=rfl
 rw [hc] at hr
 cases hdt with
 | bool _ _ h=>rw [hu] at h;cases h
 | int _ _ _ h=>rw [hu] at h;cases h
 | str _ _ h=>rw [hu] at h;cases h
 | nil _ _ h=>rw [hu] at h;cases h
 | ptr _ _ _ h=>rw [hu] at h;cases h
 | struct _ _ _ h=>rw [hu] at h;cases h
 | sl _ e' dss h hlen hall=>
  rw [hu] at h
  injection h with h
  injection h with h
  subst h
  exact ⟨dss,(hr 0 _ _ rfl rfl).1,hlen,hall⟩
theorem DT.int_of {k:IntKind} {ds:List D} (h:DT P t ds) (hu:P.underlying t=some (.int k)):∃ n,ds=[.int k n]∧(Lit.int k n).wf=true:=by
 cases h with
 | int _ k' n h hwf=>rw [hu] at h;injection h with h;injection h with h;subst h;exact ⟨n,rfl,hwf⟩
 | bool _ _ h=>rw [hu] at h;cases h
 | str _ _ h=>rw [hu] at h;cases h
 | nil _ _ h=>rw [hu] at h;cases h
 | ptr _ _ _ h=>rw [hu] at h;cases h
 | struct _ _ _ h=>rw [hu] at h;cases h
 | sl _ _ _ h=>rw [hu] at h;cases h
theorem DT.bool_of {ds:List D} (h:DT P t ds) (hu:P.underlying t=some .bool):∃ b,ds=[.bool b]:=by
 cases h with
 | bool _ b h=>exact ⟨b,rfl⟩
 | int _ _ _ h=>rw [hu] at h;cases h
 | str _ _ h=>rw [hu] at h;cases h
 | nil _ _ h=>rw [hu] at h;cases h
 | ptr _ _ _ h=>rw [hu] at h;cases h
 | struct _ _ _ h=>rw [hu] at h;cases h
 | sl _ _ _ h=>rw [hu] at h;cases h
theorem DT.str_of {ds:List D} (h:DT P t ds) (hu:P.underlying t=some .string):∃ s,ds=[.str s]∧s.size≤reachBytes:=by
 cases h with
 | str _ s h hs=>exact ⟨s,rfl,hs⟩
 | bool _ _ h=>rw [hu] at h;cases h
 | int _ _ _ h=>rw [hu] at h;cases h
 | nil _ _ h=>rw [hu] at h;cases h
 | ptr _ _ _ h=>rw [hu] at h;cases h
 | struct _ _ _ h=>rw [hu] at h;cases h
 | sl _ _ _ h=>rw [hu] at h;cases h
theorem DT.sl_of {ds:List D} (h:DT P t ds) (hu:P.underlying t=some (.slice e)):∃ dss:List (List D),ds=[.sl (dss.map (D.mk P e))]∧dss.length≤reachBytes∧∀ (i:Nat) ds,dss[i]? = some ds→DT P e ds:=by
 cases h with
 | sl _ _ dss h hl ha=>rw [hu] at h;injection h with h;injection h with h;subst h;exact ⟨dss,rfl,hl,ha⟩
 | bool _ _ h=>rw [hu] at h;cases h
 | int _ _ _ h=>rw [hu] at h;cases h
 | str _ _ h=>rw [hu] at h;cases h
 | nil _ _ h=>rw [hu] at h;cases h
 | ptr _ _ _ h=>rw [hu] at h;cases h
 | struct _ _ _ h=>rw [hu] at h;cases h
theorem DT.struct_of {fs:Array Field} {ds:List D} (h:DT P t ds) (hu:P.underlying t=some (.struct fs)):ds.length=P.cellsOf t∧∀ (i:Nat) f,fs[i]? = some f→DT P f.type ((ds.drop f.offset).take (P.cellsOf f.type)):=by
 cases h with
 | struct _ _ _ h hl ha=>rw [hu] at h;injection h with h;injection h with h;subst h;exact ⟨hl,ha⟩
 | bool _ _ h=>rw [hu] at h;cases h
 | int _ _ _ h=>rw [hu] at h;cases h
 | str _ _ h=>rw [hu] at h;cases h
 | nil _ _ h=>rw [hu] at h;cases h
 | ptr _ _ _ h=>rw [hu] at h;cases h
 | sl _ _ _ h=>rw [hu] at h;cases h
end Go.Proofs.YtoonleefemkalaaDoor.E
namespace Go.Proofs.YtoonleefemkalaaDoor.E
open Go
variable {w:World}
theorem Env.trans {S0:Reg} {O0:Owns} {w0:World} {S:Reg} {O:Owns} {m:List Nat} {mem:List (List PV)} {S':Reg} {O':Owns} {m':List Nat} {mem':List (List PV)} {w':World}
 (h:Env S0 O0 w0 S O m mem w) (h':Env S O w S' O' m' mem' w'):Env S0 O0 w0 S' O' m' mem' w' where
 ext:=h.ext.trans h'.ext h.s0
 old:=fun b hb ho=>by
  have hO:O b=none:=by
   cases hq:O b with
   | none=>rfl
   | some x=>
    obtain ⟨l,t⟩:=x
    rcases h.onew b l t hq with h1 | ⟨l0,t0,h1,_⟩
    · omega
    · rw [ho] at h1;cases h1
  rw [h'.old b (Nat.lt_of_lt_of_le hb h.ext.size) hO,h.old b hb ho]
 part:=fun b l t o hb ho hlt=>by
  have hb':=Nat.lt_of_lt_of_le hb h.ext.size
  rw [← h.part b l t o hb ho hlt]
  cases hq:O b with
  | none=>exact World.cell?_of_block (w:=w) (h'.old b hb' hq)
  | some x=>
   obtain ⟨l',t'⟩:=x
   rcases h.onew b l' t' hq with h1 | ⟨l0,t0,h1,h2⟩
   · omega
   · rw [ho] at h1;injection h1 with h1;injection h1 with h1 h1';exact h'.part b l' t' o hb' hq (by omega)
 s0:=fun b o hs=>h'.s0 b o (h.s0 b o hs)
 snew:=fun b o hs=>by
  rcases h'.snew b o hs with h1 | h1 | ⟨l,t,h1,h2⟩
  · exact h.snew b o h1
  · exact .inr (.inl (Nat.le_trans h.ext.size h1))
  · rcases h.onew b l t h1 with h3 | ⟨l0,t0,h3,h4⟩
    · exact .inr (.inl h3)
    · exact .inr (.inr ⟨l0,t0,h3,by omega⟩)
 sown:=h'.sown
 slt:=h'.slt
 olt:=h'.olt
 onew:=fun b l t ho=>by
  rcases h'.onew b l t ho with h1 | ⟨l0,t0,h1,h2⟩
  · exact .inl (Nat.le_trans h.ext.size h1)
  · rcases h.onew b l0 t0 h1 with h3 | ⟨l1,t1,h3,h4⟩
    · exact .inl h3
    · exact .inr ⟨l1,t1,h3,by omega⟩
 mlen:=h'.mlen
 mem:=h'.mem
theorem wpOp_to {P:Program} {ops:Array Oper} {Q Q':Exit→Act→World→Prop} {i:Nat} {N N':Act→World→Prop} {a:Act} (hQ:∀ e a w,e ≠ .normal→Q e a w→Q' e a w) (hN:∀ a w,N a w→N' a w)
 (h:wpOp P ops Q i N a w):wpOp P ops Q' i N' a w:=by
 have hL:LetsOut Q→LetsOut Q':=fun ⟨a,w,hq⟩=>⟨a,w,hQ _ a w (by intro h;cases h) hq⟩
 unfold wpOp at *
 cases ho:ops[i]? with
 | none=>rw [ho] at h;exact hN _ _ h
 | some o=>
  rw [ho] at h
  simp only at h ⊢
  split
  · rename_i hw
    rw [if_pos hw] at h
    rcases h with h | ⟨h1,h2⟩
    · refine .inl ?_
      unfold Oper.wp at *
      generalize (execOp a.eval o).run P w=r at *
      cases r with
      | ok nx w'=>
       cases nx with
       | value v=>exact hN _ _ h
       | skip=>exact hN _ _ h
       | defer d=>exact hN _ _ h
       | enter f args=>
        refine Calls.mono h fun e w'' he=>?_
        cases e with
        | returned v=>exact hN _ _ he
        | panicked ch=>exact hQ _ _ _ (by intro h;cases h) he
        | outgrown=>exact hL he
       | row r args=>exact Rows.mono h fun v w'' he=>hN _ _ he
       | _=>exact h.elim
      | halt x w'=>
       cases x with
       | panic v=>exact hQ _ _ _ (by intro h;cases h) h
       | _=>exact h.elim
    · exact .inr ⟨h1,hL h2⟩
  · rename_i hw
    rw [if_neg hw] at h
    exact hN _ _ h
theorem Env.rebase {S0:Reg} {O0:Owns} {w0:World} {S:Reg} {O:Owns} {m:List Nat} {mem:List (List PV)} (h:Env S0 O0 w0 S O m mem w):Env S O w S O m mem w where
 ext:=Ext.refl _ _
 old:=fun _ _ _=>rfl
 part:=fun _ _ _ _ _ _ _=>rfl
 s0:=fun _ _ h=>h
 snew:=fun _ _ h=>.inl h
 sown:=h.sown
 slt:=h.slt
 olt:=h.olt
 onew:=fun _ l t h=>.inr ⟨l,t,h,Nat.le_refl _⟩
 mlen:=h.mlen
 mem:=h.mem
end Go.Proofs.YtoonleefemkalaaDoor.E
namespace Go.Proofs.YtoonleefemkalaaDoor.E
open Go
theorem flat_noowns:∀ xs:List D,PV.noowns (flat xs)=true
 | []=>rfl
 | x :: xs=>by
  have hap:∀ (ds:List D) (ps:List PV),PV.noowns ps=true→PV.noowns (ds.map PV.d++ps)=true:=by
   intro ds ps hps
   induction ds with
   | nil=>simpa using hps
   | cons d ds ih=>simp [PV.noowns,PV.noown,ih]
  rw [flat_cons];exact hap _ _ (flat_noowns xs)
variable {k:Nat}
theorem flat_inv:∀ (xs:List D),(∀ x ∈ xs,x.cells.length=k)→∀ (q:Nat) p,(flat xs)[q]? = some p→∃ i j x y,xs[i]? = some x∧x.cells[j]? = some y∧q=i * k + j∧p=.d y
 | [],_,q,p,h=>by simp [flat] at h
 | x :: xs,hk,q,p,h=>by
  have hx:x.cells.length=k:=hk x (by simp)
  rw [flat_cons] at h
  by_cases hq:q < x.cells.length
  · rw [List.getElem?_append_left (by simpa using hq),List.getElem?_map,gE hq] at h
    simp only [Option.map_some,Option.some.injEq] at h
    exact ⟨0,q,x,_,rfl,gE hq,by omega,h.symm⟩
  · rw [List.getElem?_append_right (by simpa using Nat.le_of_not_lt hq),List.length_map] at h
    obtain ⟨i,j,y,z,h1,h2,h3,h4⟩:=flat_inv xs (fun y hy=>hk y (by simp [hy])) _ p h
    exact ⟨i + 1,j,y,z,by simpa using h1,h2,by rw [Nat.add_mul];omega,h4⟩
theorem flat_part:∀ (xs:List D),(∀ x ∈ xs,x.cells.length=k)→∀ (i:Nat) x,xs[i]? = some x→((flat xs).drop (i * k)).take k=x.cells.map PV.d
 | [],_,i,x,h=>by simp at h
 | z :: xs,hk,i,x,h=>by
  have hz:z.cells.length=k:=hk z (by simp)
  rw [flat_cons]
  cases i with
  | zero=>simp at h;subst h;rw [Nat.zero_mul,List.drop_zero,List.take_left' (by simpa using hz)]
  | succ i=>
   rw [List.drop_append,List.drop_eq_nil_of_le (by rw [List.length_map,hz,Nat.add_mul];omega),List.nil_append,List.length_map,hz,show (i + 1) * k - k=i * k by rw [Nat.add_mul];omega]
   exact flat_part xs (fun y hy=>hk y (by simp [hy])) i x (by simpa using h)
theorem flat_set (y:D) (hy:y.cells.length=k):∀ (xs:List D),(∀ x ∈ xs,x.cells.length=k)→∀ (i:Nat),i < xs.length→splice (flat xs) (i * k) (y.cells.map PV.d)=flat (xs.set i y)
 | [],_,i,h=>by simp at h
 | z :: xs,hk,i,h=>by
  have hz:z.cells.length=k:=hk z (by simp)
  cases i with
  | zero=>
   rw [List.set_cons_zero,flat_cons,flat_cons]
   unfold splice
   rw [Nat.zero_mul,List.take_zero,List.nil_append,Nat.zero_add,List.length_map,hy,← hz,show z.cells.length=(z.cells.map PV.d).length by simp,List.drop_left]
  | succ i=>
   rw [List.set_cons_succ,flat_cons,flat_cons,← flat_set y hy xs (fun y hy=>hk y (by simp [hy])) i (by simpa using h)]
   unfold splice
   have h1:(i + 1) * k=(z.cells.map PV.d).length + i * k:=by rw [List.length_map,hz,Nat.add_mul];omega
   rw [h1,List.take_length_add_append,Nat.add_assoc,List.drop_length_add_append]
   simp [List.append_assoc]
variable {K:Ctx} {s:GS}
theorem Rep.allocd {S:Reg} {O:Owns} {m:List Nat} {a:Act} {w:World} (h:Rep K S O m s a w) (o:Obj):Rep K S O m s a (w.alloc o):=by
 have he:=h.env
 have hE:Ext S w (w.alloc o):=ext_alloc S w o he.slt
 have hsz:K.w0.heap.size≤w.heap.size:=he.ext.size
 refine ⟨⟨he.ext.trans hE he.s0,fun b hb hO=>?_,fun b l t q hb hO hlt=>?_,he.s0,he.snew,he.sown,fun b o' hS=>?_,fun b l t hO=>?_,he.onew,he.mlen,fun i cs r hi hr hne=>?_⟩,h.defers,h.size,h.pre,fun i p hp=>(h.slots i p hp).ext hE (fun _ _ h=>h) (fun _ _ _ h=>h) (fun _ _ h=>h)⟩
 · rw [heap_alloc_old' _ _ _ (by omega)];exact he.old b hb hO
 · rw [World.cell?_alloc_lt w _ ⟨b,q,none⟩ (show b < w.heap.size by omega)];exact he.part b l t q hb hO hlt
 · have:=he.slt b o' hS;simp;omega
 · have:=he.olt b l t hO;simp;omega
 · obtain ⟨g1,g2⟩:=he.mem i cs r hi hr hne
   exact ⟨g1,g2.frame (heap_alloc_old' _ _ _ (he.olt _ _ _ g1)) hE (fun _ _ h=>h) (fun _ _ _ _ h=>h) (fun _ _ h=>h)⟩
theorem Rep.dummy {S:Reg} {O:Owns} {m:List Nat} {a:Act} {w:World} (h:Rep K S O m s a w):Rep K S O (m++[0]) ⟨s.slots,s.mem++[[]]⟩ a w:=by
 have he:=h.env
 have hmm:∀ (b r:Nat),m[b]? = some r→(m++[0])[b]? = some r:=fun b r hb=>by rw [List.getElem?_append_left (lG hb)];exact hb
 refine ⟨⟨he.ext,he.old,he.part,he.s0,he.snew,he.sown,he.slt,he.olt,he.onew,by simp [he.mlen],fun i cs r hi hr hne=>?_⟩,h.defers,h.size,h.pre.trans (List.prefix_append _ _),fun i p hp=>(h.slots i p hp).ext (Ext.refl S w) (fun _ _ h=>h) (fun _ _ _ h=>h) hmm⟩
 have hlt:i < s.mem.length:=by
  have h1:=(lG hi)
  simp only [List.length_append,List.length_cons,List.length_nil] at h1
  refine Classical.byContradiction fun h2=>hne ?_
  have:i=s.mem.length:=by omega
  subst this
  rw [List.getElem?_append_right (Nat.le_refl _)] at hi
  simpa using hi.symm
 rw [List.getElem?_append_left hlt] at hi
 rw [List.getElem?_append_left (by rw [he.mlen];exact hlt)] at hr
 obtain ⟨g1,g2⟩:=he.mem i cs r hi hr hne
 exact ⟨g1,g2.frame rfl (Ext.refl S w) (fun _ _ h=>h) (fun _ _ _ _ h=>h) hmm⟩
variable {t:Nat} {ty e rt:TypeId} {pos:String} {af:Array Edge} {g:Option (Nat×Bool)}
theorem Y_buildSlice0 {parts:Array (Nat×Operand)} {z:Value} {by_:Nat}
 (hu:K.P.underlying ty=some (.slice e)) (hinf:(K.P.info? e).map (fun i=>(i.zero,i.size,i.bytes))=some (some z,k,by_)) (hp:parts=#[]) (ht:t < K.n):
 Yld K ⟨some t,.buildSlice ty 0 parts,rt,pos,af,g⟩ s (s.set t (.rsl 0 0 0 k)):=by
 subst hp
 rintro a w ⟨S,O,m,h⟩
 obtain ⟨inf,hin⟩:∃ inf,K.P.info? e=some inf:=by
  cases hq:K.P.info? e with
  | none=>simp [hq] at hinf
  | some i=>exact ⟨i,rfl⟩
 have hrun:(Instr.buildSlice ty 0 #[]).run K.P w=.ok (.slice (some ⟨w.heap.size,0,none⟩) 0 0) (w.alloc (.cells #[] e)):=by
  unfold Instr.buildSlice
  simp [run_underlying hu,sizeOf,typeInfo,hin,newRow,World.alloc_eq,Instr.fill]
  have:Array.map (fun _=>(default:Value)) (Array.range 0)=#[]:=by simp [Array.range]
  first | rw [this] | (congr 1)
 refine ⟨.slice (some ⟨w.heap.size,0,none⟩) 0 0,w.alloc (.cells #[] e),?_,S,O,m,?_⟩
 · simp only [execOp];simp [hrun]
 · exact (h.allocd (.cells #[] e)).put ht (.rsl _ _ _ _ _ _ 0 (Nat.le_refl _) (by simp [lim]) (fun _ _=>rfl) (fun h=>absurd rfl h))
variable {n:Nat}
theorem zeroCells_one {z:Array Value} (h:z.all (·.oneCell')=true) (v:Value) (hv:v ∈ Builtin.zeroCells z n):v.oneCell'=true:=by
 unfold Builtin.zeroCells at hv
 have hz:=Array.all_eq_true_iff_forall_mem.1 h
 rw [Array.mem_map] at hv
 obtain ⟨i,hi,rfl⟩:=hv
 have hpos:0 < z.size:=by
  rw [Array.mem_range] at hi
  rcases Nat.eq_zero_or_pos z.size with h0 | h0
  · rw [h0,Nat.mul_zero] at hi;omega
  · exact h0
 have hlt:i % z.size < z.size:=Nat.mod_lt _ hpos
 rw [getElem!_pos z _ hlt]
 exact hz _ (Array.getElem_mem hlt)
variable {b:Nat}
theorem Y_appendN {u:Nat} {y:Operand} {by_:Nat} {ys:List D} {z:Value}
 (hu:s.get u=some (.rsl b 0 0 k)) (hy:(s.ev y).list? = some ys) (hk:∀ y ∈ ys,y.cells.length=k) (hk0:0 < k)
 (hun:K.P.underlying ty=some (.slice e)) (hinf:(K.P.info? e).map (fun i=>(i.zero,i.size,i.bytes))=some (some z,k,by_)) (hzs:z.cells.size=k) (hz1:z.cells.all (·.oneCell')=true)
 (hlen:ys.length≤lim) (hB:ys.length * by_≤lim) (ht:t < K.n):
 Yld K ⟨some t,.call ⟨.builtin .append,#[.tmp u,y],#[ty,ty]⟩,rt,pos,af,g⟩ s ⟨(t,.rsl s.mem.length 0 ys.length k) :: s.slots,s.mem++[flat ys]⟩:=by
 rintro a w ⟨S,O,m,h⟩
 have hru:=h.slots u _ hu
 have hry:=h.evl hy
 obtain ⟨inf,hin,hiz,his,hib⟩:∃ inf,K.P.info? e=some inf∧inf.zero=some z∧inf.size=k∧inf.bytes=by_:=by
  cases hq:K.P.info? e with
  | none=>simp [hq] at hinf
  | some i=>simp [hq] at hinf;exact ⟨i,rfl,hinf.1,hinf.2.1,hinf.2.2⟩
 obtain ⟨ab,hvu⟩:∃ ab,a.eval (.tmp u)=.slice ab 0 0:=by
  show ∃ ab,a.tmps.getD u undef=.slice ab 0 0
  generalize a.tmps.getD u undef=v at hru
  cases hru with | rsl _ _ _ _ _ ab cap _ _ h0 _=>exact ⟨ab,by rw [h0 rfl rfl]⟩
 have hrun0:∀ v w',(Builtin.append_ #[ty,ty] rt #[a.eval (.tmp u),a.eval y]).run K.P w=.ok v w'→(execOp a.eval ⟨some t,.call ⟨.builtin .append,#[.tmp u,y],#[ty,ty]⟩,rt,pos,af,g⟩).run K.P w=.ok (.value v) w':=by
  intro v w' hr
  simp [execOp,resolve,invoke,builtin,hr]
 by_cases hne:ys=[]
 · subst hne
   obtain ⟨ay,capy,hvy⟩:∃ ay capy,a.eval y=.slice ay 0 capy:=by
    generalize a.eval y=vy at hry
    cases hry with | sl _ ay capy _ _ _ _ _ _ _=>exact ⟨ay,capy,rfl⟩
   have hcells:(Builtin.firstCells inf.size 0 (.slice ay 0 capy)).run K.P w=.ok #[] w:=by
    cases ay with
    | none=>simp [Builtin.firstCells]
    | some b=>simp [Builtin.firstCells,loadCells,loadCellsFrom]
   have hrun:(Builtin.append_ #[ty,ty] rt #[.slice ab 0 0,.slice ay 0 capy]).run K.P w=.ok (.slice ab 0 0) w:=by
    cases ab<;>simp [Builtin.append_,run_underlying hun,sizeOf,typeInfo,hin,Builtin.lenOf,hcells,storeCells]
   have hd:=h.dummy
   refine ⟨.slice ab 0 0,w,hrun0 _ _ (by rw [hvu,hvy];exact hrun),S,O,m++[0],?_⟩
   exact hd.put ht (.rsl _ _ _ _ _ _ 0 (Nat.le_refl _) (by simp [lim]) (fun _ _=>rfl) (fun h=>absurd rfl h))
 · have hyslen:0 < ys.length:=List.length_pos_iff.2 hne
   have hlimv:lim=140737488355328:=rfl
   obtain ⟨ay,capy,hvy⟩:∃ ay capy,a.eval y=.slice (some ay) ys.length capy:=by
    generalize a.eval y=vy at hry
    cases hry with
    | sl _ ay capy _ _ _ _ hn _ _=>
     cases ay with
     | none=>exact absurd (hn rfl) hne
     | some ay=>exact ⟨ay,capy,rfl⟩
   rw [hvy] at hry
   obtain ⟨news,hnl,hnews,hnrd⟩:=hry.news hk
   have hrun:(Builtin.append_ #[ty,ty] rt #[.slice ab 0 0,.slice (some ay) ys.length capy]).run K.P w=
    .ok (.slice (some ⟨w.heap.size,0,none⟩) ys.length (grownCap w ys.length 0 e)) (w.drew.alloc (.cells (news.toArray++Builtin.zeroCells z.cells (grownCap w ys.length 0 e - ys.length)) e)):=by
    cases ab with
    | none=>exact run_append_nil (P:=K.P) w ty rt e inf z hun hin hiz ay ys.length capy news (by rw [his];exact hnl) (fun j v hj=>(hnews j v hj).1) hyslen (by omega) (by rw [hib];omega)
    | some ad=>
     have:=run_append_grow (P:=K.P) w ty rt e inf z hun hin hiz ad 0 0 [] (by simp) (by simp) ay ys.length capy news (by rw [his];exact hnl) (fun j v hj=>(hnews j v hj).1) (by omega) (by omega) (growslice_fits (by omega) (by rw [hib,Nat.zero_add];omega))
     simpa using this
   have hge:=grownCap_ge w ys.length 0 e
   have hgx:grownCap w ys.length 0 e≤9223372036854775807:=grownCap_le_maxLen w ys.length 0 e (by show _≤9223372036854775807;have:lim=140737488355328:=rfl;omega)
   generalize grownCap w ys.length 0 e=cp at hge hgx hrun
   have hd:=h.drew
   have hfl:=flat_length ys hk
   have henv:=hd.env.alloc (news.toArray++Builtin.zeroCells z.cells (cp - ys.length)) e (flat ys) (by rw [hfl];simp [hnl]) (fun j v hj=>by
    by_cases hjn:j < news.length
    · rw [Array.getElem?_append_left (by simpa using hjn)] at hj
      exact (hnews j v (by simpa using hj)).2
    · rw [Array.getElem?_append_right (by simpa using Nat.le_of_not_lt hjn)] at hj
      exact zeroCells_one hz1 v (Array.mem_of_getElem? hj)) (fun q p v hp hv=>by
    obtain ⟨i,j,x,y',h1,h2,rfl,rfl⟩:=flat_inv ys hk q p hp
    refine ⟨O,[],fun _ _=>rfl,?_⟩
    have hq:=(lG hp)
    rw [hfl,← hnl] at hq
    rw [Array.getElem?_append_left (by simpa using hq)] at hv
    exact .d _ _ _ ((hnrd i x j y' v h1 h2 (by simpa using hv)).ext (ext_drew S w) (fun _ _ h=>h))) (PV.copies_eq (flat_noowns ys))
   refine ⟨_,_,hrun0 _ _ (by rw [hvu,hvy];exact hrun),S,_,_,henv,h.defers,by simp [Act.put,h.size],h.pre.trans (List.prefix_append _ _),fun i p hi=>?_⟩
   have hE:Ext S w (w.drew.alloc (.cells (news.toArray++Builtin.zeroCells z.cells (cp - ys.length)) e)):=(ext_drew S w).trans (ext_alloc S w.drew _ h.env.slt) (fun _ _ h=>h)
   rw [getD_put _ _ _ _ (by rw [h.size];exact ht)]
   have hi':(s.set t (.rsl s.mem.length 0 ys.length k)).get i=some p:=hi
   rw [GS.get_set] at hi'
   by_cases hit:i=t
   · rw [if_pos hit] at hi' ⊢;injection hi' with hi';subst hi'
     exact .rsl _ _ _ _ _ _ _ hge hlen (fun h _=>by omega) (fun _=>⟨w.heap.size,by rw [← h.env.mlen];simp,by rw [rofs_zero],_,e,heap_alloc_new' w.drew _,by rw [rofs_zero];simp [size_zeroCells,hnl,hzs];rw [← Nat.add_mul];exact Nat.mul_le_mul_right _ (by omega)⟩)
   · rw [if_neg hit] at hi' ⊢
     exact (h.slots i p hi').ext hE (fun _ _ h=>h) (fun b t q hb=>by rw [if_neg (show b ≠ w.drew.heap.size from Nat.ne_of_lt (h.env.olt b _ t hb))];exact hb) (fun b r hb=>by
      rw [List.getElem?_append_left (lG hb)];exact hb)
variable {x:Operand}
theorem Q_rowIndex {off:Nat} {ix:Operand} {kk:IntKind} {i:Int}
 (hx:s.ev x=.rsl b off n k) (hi:s.ev ix=.d (.int kk i)) (h0:0≤i) (h1:i.toNat < n) (hu:K.P.underlying ty=some (.slice e)) (hz:(K.P.info? e).map (·.size)=some k) (ht:t < K.n):
 Qy K ⟨some t,.indexAddr ty x ix,rt,pos,af,g⟩ s t (.ref b (off + i.toNat * k)):=by
 refine fun S O m a w h=>?_
 obtain ⟨l,hr⟩:=h.ev x
 rw [hx] at hr
 have hiv:=rd_int (h.evd hi)
 generalize hv:a.eval x=v at hr
 cases hr with
 | rsl _ _ _ _ _ ad cap hc hl _ hh=>
  obtain ⟨r,h2,rfl,_⟩:=hh (by omega)
  rw [rofs_pos (by omega)] at hv
  refine ⟨.pointer (some ⟨r,off + i.toNat * k,none⟩),fun w' _=>?_,.ref _ _ _ r h2⟩
  simp only [execOp,hv,hiv]
  have:=run_indexAt_slice (len:=n) (cap:=cap) (k:=kk) hu hz h0 (by omega) w' ⟨r,off,none⟩
  rw [add_at] at this
  simp [this]
theorem Q_rowLen {off:Nat}
 (hx:s.ev x=.rsl b off n k) (hu:K.P.underlying ty=some (.slice e)) (ht:t < K.n):
 Qy K ⟨some t,.call ⟨.builtin .len,#[x],#[ty]⟩,rt,pos,af,g⟩ s t (.d (.int .i64 (n:Int))):=by
 refine fun S O m a w h=>?_
 obtain ⟨l,hr⟩:=h.ev x
 rw [hx] at hr
 generalize hv:a.eval x=v at hr
 cases hr with
 | rsl _ _ _ _ _ ad cap hc hl _ hh=>
  refine ⟨.int .i64 (n:Int),fun w _=>?_,.d _ _ _ (.int _ _)⟩
  simp [execOp,resolve,invoke,builtin,hv,Builtin.len_,run_underlying hu,goInt]
theorem mkAgg_d (ds:List D):mkAgg (ds.map PV.d)=.d (.agg ds):=by unfold mkAgg;rw [List.map_toDs]
theorem flat_plain {xs:List D} (h:flat xs ≠ []):plainB (flat xs)=true:=by
 match hf:flat xs,h with
 | [],h=>exact absurd rfl h
 | p :: r,_=>
  have hm:p ∈ flat xs:=by rw [hf];simp
  obtain ⟨x,_,hx⟩:=List.mem_flatMap.1 hm
  obtain ⟨d,_,rfl⟩:=List.mem_map.1 hx
  rfl
theorem Q_rowLoad {o i:Nat} {xs ds:List D} {d:TypeDesc}
 (hx:s.ev x=.ref b o) (hm:s.mem[b]? = some (flat xs)) (ho:o=i * k) (hi:xs[i]? = some (.agg ds)) (hk:∀ x ∈ xs,x.cells.length=k) (hk0:0 < k) (hz:(K.P.info? ty).map (·.size)=some k) (hu:K.P.underlying ty=some d) (hl:leafT d=false)
 (hB:K.Bs.contains b=false) (ht:t < K.n):Qy K ⟨some t,.load ty x,rt,pos,af,g⟩ s t (.d (.agg ds)):=by
 subst ho
 have hlt:=(lG hi)
 have:=Q_load_agg (t:=t) (rt:=rt) (pos:=pos) (af:=af) (g:=g) hx hm hz hu hl (by rw [flat_length xs hk,← Nat.succ_mul];exact Nat.mul_le_mul_right _ hlt) hB (flat_plain (by intro hfe;have:=congrArg List.length hfe;rw [flat_length xs hk,List.length_nil] at this;have:=Nat.mul_pos (Nat.lt_of_le_of_lt (Nat.zero_le _) hlt) hk0;omega)) ht
 rw [flat_part xs hk i _ hi] at this
 simp only [D.cells] at this
 rw [mkAgg_d] at this
 exact this
theorem D_rowStore {y:Operand} {o i:Nat} {xs:List D} {d:D}
 (hx:s.ev x=.ref b o) (hm:s.mem[b]? = some (flat xs)) (ho:o=i * k) (hi:i < xs.length) (hk:∀ x ∈ xs,x.cells.length=k) (hk0:0 < k) (hy:s.ev y=.d d) (hd:d.cells.length=k) (hz:(K.P.info? ty).map (·.size)=some k):
 Does K ⟨none,.store ty x y,rt,pos,af,g⟩ s ⟨s.slots,s.mem.set b (flat (xs.set i d))⟩:=by
 subst ho
 have hfl:=flat_length xs hk
 have hle:i * k + k≤xs.length * k:=by rw [← Nat.succ_mul];exact Nat.mul_le_mul_right _ hi
 have hce:(PV.d d).cellsOf=d.cells.map PV.d:=by cases d<;>rfl
 have:=D_store (pos:=pos) (af:=af) (g:=g) (rt:=rt) hx hm hy rfl rfl hce hz (by rw [List.length_map,hd]) (by rw [hfl];exact hle) (flat_plain (by intro hfe;have:=congrArg List.length hfe;rw [hfl,List.length_nil] at this;omega))
 rw [flat_set d hd xs hk i hi] at this
 exact this
theorem Q_field {st:TypeId} {f:Nat} {fs:Array Field} {fl:Field} {ds:List D} {d:D} {td:TypeDesc}
 (hx:s.ev x=.d (.agg ds)) (hu:K.P.underlying st=some (.struct fs)) (hf:fs[f]? = some fl) (htd:K.P.underlying fl.type=some td) (hl:leafT td=true) (hd:ds[fl.offset]? = some d) (ht:t < K.n):
 Qy K ⟨some t,.field st x f,rt,pos,af,g⟩ s t (.d d):=by
 refine fun S O m a w h=>?_
 have hr:=h.evd hx
 generalize hv:a.eval x=v at hr
 cases hr with
 | agg _ vs hsz ho hh=>
  have hlt:fl.offset < vs.size:=by rw [hsz];exact (lG hd)
  refine ⟨vs[fl.offset],fun w' _=>?_,.d _ _ _ (hh _ _ _ hd (Array.getElem?_eq_getElem hlt))⟩
  simp only [execOp,hv]
  simp [Instr.field,run_underlying hu,hf,asAgg,part,run_isAgg htd,hl,Array.getElem?_eq_getElem hlt]
theorem rens_flat (f:Nat→Nat):∀ xs:List D,PV.rens f (flat xs)=flat xs
 | []=>rfl
 | x :: xs=>by
  have hap:∀ (ds:List D) (ps qs:List PV),PV.rens f ps=qs→PV.rens f (ds.map PV.d++ps)=ds.map PV.d++qs:=by
   intro ds ps qs hps
   induction ds with
   | nil=>simpa using hps
   | cons d ds ih=>simp [PV.rens,PV.ren,ih]
  rw [flat_cons];exact hap _ _ _ (rens_flat f xs)
end Go.Proofs.YtoonleefemkalaaDoor.E
namespace Go.Proofs.YtoonleefemkalaaDoor.E
open Go
theorem y_buildSlice0 {K:Ctx} {s:GS} {t:Nat} {ty e rt:TypeId} {parts:Array (Nat×Operand)} {pos:String} {af:Array Edge} {g:Option (Nat×Bool)} {z:Value} {k by_:Nat} (hu:K.P.underlying ty=some (.slice e)) (hinf:(K.P.info? e).map (fun i=>(i.zero,i.size,i.bytes))=some (some z,k,by_)) (hp:parts=#[]:=by rfl) (ht:t < K.n:=by exact oR rfl):
 Yld K ⟨some t,.buildSlice ty 0 parts,rt,pos,af,g⟩ s (s.set t (.rsl 0 0 0 k)):=Y_buildSlice0 hu hinf hp ht
end Go.Proofs.YtoonleefemkalaaDoor.E
namespace Go.Proofs.YtoonleefemkalaaDoor.E
open Go
theorem Pf.data {P:Program} {f:FuncId} {args xs:List D} {k:Nat} (h:Pf P f args (.osl k xs)):Pf P f args (.d (.sl xs)):=
 ⟨h.1,fun w S O m vals h1 h2 h3=>(h.2 w S O m vals h1 h2 h3).mono fun e w' ⟨v,r,mem',S',O',m',he,hr,henv,hp,hrp⟩=>by
  obtain ⟨rfl,rfl⟩:=hr
  exact ⟨v,_,[],S',O',m',he,⟨rfl,rfl⟩,henv,hp,hrp.wk (.inr (.inr (.inr (.inr ⟨_,_,rfl,rfl⟩))))⟩⟩
end Go.Proofs.YtoonleefemkalaaDoor.E
namespace Go.Proofs.YtoonleefemkalaaDoor.E
open Go Go.RowKit
theorem arg_agg {H:Type} {enc:TypeId×Value→H} {P:Program} {w:World} {sp:Nat→Bool} {held:Bool} {L:List TypeId} (hL:closedT P L=true) {t:TypeId} (ht:t ∈ L)
 {vs:Array Value} {d:DataW H} {ps:List MemPlace} (h:DataW.Trod enc P w 0 sp held t (.agg vs) d ps) (hw:∀ n ∈ d.weights P t,n≤reachBytes):
 ∃ ds:List D,DT P t ds∧Rd w (allOf w) (.agg ds) (.agg vs):=by
 obtain ⟨fuel,hf⟩:=h
 obtain ⟨ds,hdt,hl,hr⟩:=read hL fuel t _ _ ht hf hw
 have hc:(Value.agg vs).cells.toList=vs.toList:=rfl
 rw [hc] at hl hr
 refine ⟨ds,hdt,.agg ds vs (by simpa using hl.symm) (fun i v hv=>?_) (fun i x v hx hv=>(hr i x v hx (by simpa using hv)).1)⟩
 have hlt:i < ds.length:=by rw [hl];simpa using (Array.getElem?_eq_some_iff.1 hv).1
 exact (hr i _ v (gE hlt) (by simpa using hv)).2
end Go.Proofs.YtoonleefemkalaaDoor.E
namespace Go.Proofs.YtoonleefemkalaaDoor.E
open Go
def depsOf (ops:Array Oper) (i:Nat):List Nat:=match ops[i]? with
 | some o=>(o.after.toList.filter fun e=>Region.binds .any e).map (·.on)
 | none=>[]
def upd (b:Nat→Bool) (i:Nat):Nat→Bool:=fun j=>cond (Nat.beq j i) true (b j)
def noB:Nat→Bool:=fun _=>false
def allB (n:Nat):Nat→Bool:=fun j=>Nat.blt j n
def Valid (ops:Array Oper) (b:Nat→Bool):Prop:=∀ j,b j=true→∀ d ∈ depsOf ops j,b d=true
def Stp (K:Ctx) (ops:Array Oper) (M:(Nat→Bool)→List (List PV)) (base:List (Nat×PV)) (i:Nat) (sl r:List (Nat×PV)):Prop:=
 ∀ (b:Nat→Bool) (rest:List (Nat×PV)),b i=false→(∀ j ∈ depsOf ops i,b j=true)→Valid ops b→
  GOps K ops (fun e s'=>e=.normal∧s'=⟨r++(sl++base++rest),M (upd b i)⟩) [i] ⟨sl++base++rest,M b⟩
inductive Conf (K:Ctx) (ops:Array Oper) (M:(Nat→Bool)→List (List PV)) (base:List (Nat×PV)):Nat→List (Nat×Nat×PV)→List (Nat×Nat×PV)→Prop
 | done {i:Nat} {es:List (Nat×Nat×PV)}:i=ops.size→Conf K ops M base i es es
 | step {i:Nat} {es fs:List (Nat×Nat×PV)} {sl r:List (Nat×PV)} (hs:Stp K ops M base i sl r) (hsl:∀ x ∈ sl,∃ d ∈ depsOf ops i,(d,x) ∈ es) (hc:Conf K ops M base (i + 1) (es++r.map fun x=>(i,x)) fs):Conf K ops M base i es fs
variable {K:Ctx} {ops:Array Oper} {base:List (Nat×PV)} {i:Nat}
theorem Conf.le {M:(Nat→Bool)→List (List PV)} {es fs:List (Nat×Nat×PV)} (h:Conf K ops M base i es fs):∃ later,fs=es++later:=by
 induction h with
 | done _=>exact ⟨[],by simp⟩
 | step _ _ _ ih=>obtain ⟨l,h⟩:=ih;exact ⟨_,by rw [h,List.append_assoc]⟩
theorem Conf.idx {M:(Nat→Bool)→List (List PV)} {i0:Nat} {es fs:List (Nat×Nat×PV)} (h:Conf K ops M base i0 es fs):∀ x ∈ fs,x ∈ es∨i0≤x.1:=by
 induction h with
 | done _=>exact fun x hx=>.inl hx
 | @step j es fs sl r hs hsl hc ih=>
  intro x hx
  rcases ih x hx with h | h
  · rcases List.mem_append.1 h with h | h
    · exact .inl h
    · obtain ⟨y,_,rfl⟩:=List.mem_map.1 h;exact .inr (Nat.le_refl _)
  · exact .inr (by omega)
theorem Conf.at {M:(Nat→Bool)→List (List PV)} {i0:Nat} {es fs:List (Nat×Nat×PV)} (h:Conf K ops M base i0 es fs) (hes:∀ x ∈ es,x.1 < i0):
 ∀ i,i0≤i→i < ops.size→∃ sl r,Stp K ops M base i sl r∧(∀ x ∈ r,(i,x) ∈ fs)∧(∀ x,(i,x) ∈ fs→x ∈ r)∧∀ x ∈ sl,∃ d ∈ depsOf ops i,(d,x) ∈ fs:=by
 induction h with
 | done h=>intro i h1 h2;omega
 | @step j es fs sl r hs hsl hc ih=>
  intro i h1 h2
  have hes':∀ x ∈ es++r.map (fun x=>(j,x)),x.1 < j + 1:=fun x hx=>by
   rcases List.mem_append.1 hx with hx | hx
   · have:=hes x hx;omega
   · obtain ⟨y,_,rfl⟩:=List.mem_map.1 hx;exact Nat.lt_succ_self _
  by_cases hij:i=j
  · subst hij
    obtain ⟨l,hl⟩:=hc.le
    refine ⟨sl,r,hs,fun x hx=>?_,fun x hx=>?_,fun x hx=>?_⟩
    · rw [hl];simp only [List.mem_append,List.mem_map];exact .inl (.inr ⟨x,hx,rfl⟩)
    · rcases hc.idx _ hx with h | h
      · rcases List.mem_append.1 h with h | h
        · have:=hes _ h;simp at this
        · obtain ⟨y,hy,he⟩:=List.mem_map.1 h
          injection he with _ he
          exact he▸hy
      · simp at h;omega
    · obtain ⟨d,hd,hm⟩:=hsl x hx
      exact ⟨d,hd,by rw [hl];simp only [List.mem_append];exact .inl (.inl hm)⟩
  · exact ih hes' i (by omega) h2
theorem key_uniq:∀ {fs:List (Nat×Nat×PV)},(fs.map (·.2.1)).Nodup→∀ {x y:Nat×Nat×PV},x ∈ fs→y ∈ fs→x.2.1=y.2.1→x=y
 | [],_,_,_,h,_,_=>by cases h
 | z :: fs,hn,x,y,hx,hy,he=>by
  rw [List.map_cons,List.nodup_cons] at hn
  rcases List.mem_cons.1 hx with rfl | hx'
  · rcases List.mem_cons.1 hy with rfl | hy'
    · rfl
    · exact absurd (List.mem_map.2 ⟨y,hy',he.symm⟩) hn.1
  · rcases List.mem_cons.1 hy with rfl | hy'
    · exact absurd (List.mem_map.2 ⟨x,hx',he⟩) hn.1
    · exact key_uniq hn.2 hx' hy' he
theorem lookup_isSome {l:List (Nat×PV)} {x:Nat×PV} (h:x ∈ l):∃ q,l.lookup x.1=some q:=by
 induction l with
 | nil=>cases h
 | cons y l ih=>
  obtain ⟨k,q⟩:=y
  rw [List.lookup_cons]
  split
  · exact ⟨_,rfl⟩
  · rcases List.mem_cons.1 h with rfl | h
    · rename_i hb;simp at hb
    · exact ih h
theorem lookup_append (l m:List (Nat×PV)) (t:Nat):(l++m).lookup t=(l.lookup t).or (m.lookup t):=by
 induction l with
 | nil=>simp
 | cons x l ih=>
  obtain ⟨k,p⟩:=x
  simp only [List.cons_append,List.lookup_cons]
  split
  · simp
  · exact ih
theorem lookup_mem':∀ (l:List (Nat×PV)) (t:Nat) (p:PV),l.lookup t=some p→(t,p) ∈ l
 | [],_,_,h=>by cases h
 | (k,q) :: l,t,p,h=>by
  rw [List.lookup_cons] at h
  split at h
  · rename_i hb
    injection h with h
    have:=eq_of_beq hb
    subst this;subst h;simp
  · exact List.mem_cons_of_mem _ (lookup_mem' l t p h)
theorem Le_slots {s s':GS} (hm:s'.mem=s.mem) (h:∀ t p,s'.get t=some p→s.get t=some p∨p=.undef):Le K s s':=by
 rintro a w ⟨S,O,m,hr⟩
 refine ⟨S,O,m,hm▸hr.env,hr.defers,hr.size,hr.pre,fun t p hp=>?_⟩
 rcases h t p hp with h | rfl
 · exact hr.slots t p h
 · exact .undef _ _
theorem beq_no {j:Nat} (h:¬ j=i):Nat.beq j i=false:=by
 cases hb:Nat.beq j i with
 | false=>rfl
 | true=>exact absurd (Nat.eq_of_beq_eq_true hb) h
theorem beq_yes (j:Nat):Nat.beq j j=true:=Nat.beq_refl j
def bOf (listed:Array Bool):Nat→Bool:=fun j=>listed.getD j false
variable {listed:Array Bool}
theorem bOf_set (hi:i < listed.size):bOf (listed.setIfInBounds i true)=upd (bOf listed) i:=by
 funext j
 unfold bOf upd
 by_cases hj:j=i
 · subst hj
   rw [beq_yes];simp [Array.getD,hi]
 · have:Nat.beq j i=false:=beq_no hj
   rw [this]
   simp only [cond_false,Array.getD_eq_getD_getElem?]
   rw [Array.getElem?_setIfInBounds_ne (Ne.symm hj)]
def open_ (listed:Array Bool):Nat:=(listed.toList.filter (!·)).length
theorem open_set (hi:i < listed.size) (hf:listed.getD i true=false):open_ (listed.setIfInBounds i true) + 1=open_ listed:=by
 have key:∀ (l:List Bool) (i:Nat),l[i]? = some false→((l.set i true).filter (!·)).length + 1=(l.filter (!·)).length:=by
  intro l
  induction l with
  | nil=>intro i h;simp at h
  | cons x l ih=>
   intro i h
   cases i with
   | zero=>simp at h;subst h;simp
   | succ i=>
    have:=ih i (by simpa using h)
    rw [List.set_cons_succ,List.filter_cons,List.filter_cons]
    split
    · rw [List.length_cons,List.length_cons];omega
    · exact this
 unfold open_
 rw [show (listed.setIfInBounds i true).toList=listed.toList.set i true by simp]
 refine key _ i ?_
 have hl:listed[i]? = some listed[i]:=Array.getElem?_eq_getElem hi
 rw [Array.getD_eq_getD_getElem?,hl] at hf
 rw [Array.getElem?_toList,hl]
 simpa using hf
theorem open_zero (h:open_ listed=0) (i:Nat) (hi:i < listed.size):listed.getD i true=true:=by
 unfold open_ at h
 rw [List.length_eq_zero_iff,List.filter_eq_nil_iff] at h
 have:=h listed[i] (by simp)
 rw [Array.getD_eq_getD_getElem?,Array.getElem?_eq_getElem hi]
 simpa using this
theorem depsOf_mem {o:Oper} (ho:ops[i]? = some o) {e:Edge} (he:e ∈ o.after) (hb:Region.binds .any e=true):e.on ∈ depsOf ops i:=by
 unfold depsOf
 rw [ho]
 exact List.mem_map.2 ⟨e,List.mem_filter.2 ⟨by simpa using he,hb⟩,rfl⟩
end Go.Proofs.YtoonleefemkalaaDoor.E
namespace Go.Proofs.YtoonleefemkalaaDoor.E
open Go
def pick (es:List (Nat×Nat×PV)) (ds:List Nat):List (Nat×PV):=(es.filter fun x=>ds.contains x.1).map (·.2)
theorem pick_mem {es:List (Nat×Nat×PV)} {ds:List Nat} {x:Nat×PV} (h:x ∈ pick es ds):∃ d ∈ ds,(d,x) ∈ es:=by
 obtain ⟨⟨d,y⟩,hy,rfl⟩:=List.mem_map.1 h
 obtain ⟨h1,h2⟩:=List.mem_filter.1 hy
 exact ⟨d,by simpa using h2,h1⟩
def nodupB:List Nat→Bool
 | []=>true
 | x :: r=>!r.contains x && nodupB r
theorem nodupB_iff:∀ {l:List Nat},nodupB l=true→l.Nodup
 | [],_=>.nil
 | x :: r,h=>by
  simp only [nodupB,Bool.and_eq_true,Bool.not_eq_true',List.contains_eq_mem,decide_eq_false_iff_not] at h
  exact List.nodup_cons.2 ⟨h.1,nodupB_iff h.2⟩
theorem filter_lookup (f:Nat→Bool):∀ (l:List (Nat×PV)) (t:Nat) (p:PV),(l.filter fun x=>f x.1).lookup t=some p→l.lookup t=some p
 | [],_,_,h=>by cases h
 | (k,q) :: l,t,p,h=>by
  have hft:∀ (l:List (Nat×PV)),(l.filter fun x=>f x.1).lookup t=some p→f t=true:=by
   intro l
   induction l with
   | nil=>intro h;cases h
   | cons y r ih=>
    intro h
    rw [List.filter_cons] at h
    split at h
    · rename_i hx
      obtain ⟨k2,q2⟩:=y
      rw [List.lookup_cons] at h
      split at h
      · rename_i hb2
        have:t=k2:=by simpa using hb2
        subst this;exact hx
      · exact ih h
    · exact ih h
  have h0:=hft _ h
  rw [List.filter_cons] at h
  rw [List.lookup_cons]
  by_cases hk:f k=true
  · rw [if_pos hk,List.lookup_cons] at h
    split
    · rename_i hb;rw [hb] at h;exact h
    · rename_i hb;rw [hb] at h;exact filter_lookup f l t p h
  · rw [if_neg hk] at h
    split
    · rename_i hb
      have:t=k:=by simpa using hb
      subst this;exact absurd h0 hk
    · exact filter_lookup f l t p h
end Go.Proofs.YtoonleefemkalaaDoor.E
