import Derived.Test.YtoonleefemkalaaDoorM24
import Derived.Shelf.Spec.SlicesInsert
import Derived.Lib.AppendZerosOnto
import Derived.Test.YtoonleefemkalaaDoorM17
/- Contracts of functions. Conditions: none. -/
set_option linter.unusedSimpArgs false
set_option linter.unusedVariables false
set_option maxRecDepth 20000
namespace Go.Proofs.YtoonleefemkalaaDoor
open Go Go.Proofs.YtoonleefemkalaaDoor.E
section
theorem frontE (pre post:List D) (l:List Pk) (i:Nat):pre++pD l++post=(pre++pD (l.take i))++pD (l.drop i)++post:=by
 have h:pD l=pD (l.take i)++pD (l.drop i):=by unfold pD;rw [← List.map_append,List.take_append_drop]
 rw [h];simp [List.append_assoc]
theorem k3_front {pre:List D} (h:∀ x ∈ pre,x.cells.length=3) (l:List Pk):∀ x ∈ pre++pD l,x.cells.length=3:=fun x hx=>by
 rcases List.mem_append.1 hx with hx | hx
 · exact h x hx
 · exact pD_k l x hx
theorem row_frontE (b:Nat) (pre post:List D) (l:List Pk) (i:Nat):(PV.rsl b (rlo 3 (pre++(pD l).take i) ((pD l).drop i) post) ((pD l).length - i) 3)=rowV b 3 (pre++pD (l.take i)) (pD (l.drop i)) post:=by
 unfold rowV
 rw [show (pD l).take i=pD (l.take i) by unfold pD;rw [List.map_take],show (pD l).drop i=pD (l.drop i) by unfold pD;rw [List.map_drop],pD_len,pD_len,List.length_drop]
def dueN:Nat→Ch→Ch
 | 0,c=>c
 | n + 1,c=>match c.ear with
  | []=>c
  | q :: r=>if q.nu == c.exp then dueN n (delC { c with ear:=r } q) else c
theorem delC_few {c:Ch} (h:c.Few) (q:Pk) (hd:c.del.length < 1000000):(delC c q).Few:={ h with del:=by show (c.del++[q.bo]).length≤_;rw [List.length_append];simp;omega }
theorem pD_get {l:List Pk} {i:Nat} {q:Pk} (h:l[i]? = some q):(pD l)[i]? = some q.d:=by unfold pD;rw [List.getElem?_map,h];rfl
theorem pD_ne {l:List Pk} {i:Nat} (h:i < l.length):pD l ≠ []:=fun e=>by
 have h3:(pD l).length=0:=by rw [e];rfl
 rw [pD_len] at h3;omega
set_option maxRecDepth 100000 in
theorem c71x (c:Ch) (p:Pp) (hp:p.Ok) (hc:c.Few) (hd:c.del.length + c.ear.length≤900000) (S0:Reg) (w0:World):ItX Tryd.prog 71 3 95 #[46] asg60 bod60 2 2 1 0 (Ch2 c p) S0 w0 (fun m=>∃ p':Pp,p'.Ok∧m=Ch2 (dueN c.ear.length c) p'):=by
 intro l fn D tmps w S O m l1 v1 he hs henv hl hS hO hsz ht hv1
 have hcall:=gcall_bodyAt (P:=Tryd.prog) (f:=71) (fn:=Tryd.f71) (args:=[.fn (.yield l) [] [],.ref 2 0]) (mem:=Ch2 c p) (R:=fun q m=>q=.tup []∧∃ p':Pp,p'.Ok∧m=Ch2 (dueN c.ear.length c) p') 3 42 [] [(0,.fn (.yield l) [] []),(1,.ref 2 0)] 9 Tryd.func71 rfl Tryd.ntmps71 (oR rfl) Tryd.results71 rfl rfl henv (vals:=#[.func (.yield l) #[] #[],v1]) rfl (fun i pv v hpv hv=>by
  match i,hpv,hv with
  | 0,hpv,hv=>
   injection hpv with hpv;subst hpv
   have hv':some (Value.func (.yield l) #[] #[])=some v:=hv
   injection hv' with hv';subst hv'
   exact .fn _ _ _ _ #[] #[] rfl rfl (fun i p v hp=>by simp at hp) (fun i p v hp=>by simp at hp)
  | 1,hpv,hv=>
   injection hpv with hpv;subst hpv
   have hv':some v1=some v:=hv
   injection hv' with hv';subst hv'
   exact hv1
  | i + 2,hpv,hv=>simp at hpv) (fun hm3=>?_)
 · exact hcall.mono (fun e w2 ⟨v,r,mem',S',O',m',h1,h2,h3,h4,h5,_⟩=>⟨v,S',O',m',mem',h1,h2.2,h3,h4,h5⟩)
 refine (show GF ⟨Tryd.prog,42,S,O,w,m.take 3,[],[]⟩ [] (.code _) (E.Fin Tryd.prog [] 9 (fun q m=>q=.tup []∧∃ p':Pp,p'.Ok∧m=Ch2 (dueN c.ear.length c) p')) _ from ?_)
 repeat' first | refine s_ ?_ | fail
 generalize hFe:dueN c.ear.length c=F
 refine gLo (fun x:Ch×Pp=>⟨[(0,.fn (.yield l) [] []),(1,.ref 2 0)],Ch2 x.1 x.2⟩) (fun x=>x.1.ear.length) (fun x=>x.2.Ok∧x.1.Few∧x.1.del.length + x.1.ear.length≤900000∧dueN x.1.ear.length x.1=F) (c,p) ⟨hp,hc,hd,hFe⟩ (leKp ⟨rfl,rfl,trivial⟩) (fun x hx Q' hn he hr hpp=>?_)
 obtain ⟨c3,p3⟩:=x
 obtain ⟨hp3,hf3,hd3,hF3⟩:p3.Ok∧c3.Few∧c3.del.length + c3.ear.length≤900000∧dueN c3.ear.length c3=F:=hx
 refine (show GF _ _ _ _ ⟨[(0,.fn (.yield l) [] []),(1,.ref 2 0)],ChA c3 p3 3 4 5 6 7 8 :: [.ref 0 0] :: [.ref 0 0] :: ChR c3 p3⟩ from ?_)
 repeat' first | refine s_ ?_ | fail
 cases hear:c3.ear with
 | nil=>
  rw [hear] at hF3
  have hF3':c3=F:=hF3
  subst hF3'
  refine Z9 ?_
  iterate 11 refine ov (hc:=?_)
  refine oqw (hs:=rfl) (hj:=rfl) (h:=fun _=>rfl) (p:=.d (.ptr (.agg [.int .i64 0,.int .i64 0,.str ByteArray.empty]))) (hq:=fun rest hg=>absurd hg (by simp [isT,hear,pD])) (hc:=?_)
  iterate 8 refine ov (hc:=?_)
  refine Z36 ?_
  refine cf (by exact rfl) ?_ (by simp [hear,pD])
  repeat' first | refine s_ ?_ | fail
  refine Z15 ?_
  repeat' first | refine s_ ?_ | fail
  exact Y0
 | cons q r=>
  have hel:0 < c3.ear.length:=by rw [hear];simp
  have hq0:(pD c3.ear)[0]? = some q.d:=by rw [hear];rfl
  have hq1:(pD c3.ear)[0]? = some (.agg [.int .i64 q.kd,.int .i64 q.nu,.str q.bo]):=hq0
  refine Z9 ?_
  iterate 11 refine ov (hc:=?_)
  refine oqw (hs:=rfl) (hj:=rfl) (h:=fun _=>rfl) (p:=.ref 8 (rlo 3 p3.e1 (pD c3.ear) p3.e2 + (0:Int).toNat * 3)) (hq:=fun rest _ ht=>by exact Q_rowIndex (n:=(pD c3.ear).length) rfl rfl (by omega) (by rw [pD_len];exact_mod_cast hel) u42 sz28 ht) (hc:=?_)
  refine Z6 ?_
  refine oqw (hs:=rfl) (hj:=rfl) (h:=fun _=>rfl) (p:=.d (.int .i64 q.nu)) (hq:=fun rest _ ht=>by exact Q_rowLeaf (pre:=p3.e1) (xs:=pD c3.ear) (post:=p3.e2) (i:=0) (f:=1) (k:=3) rfl rfl (by rw [rlo_ne (pD_ne hel)];rfl) hq1 rfl (row_k hp3.e1 (pD_k _) hp3.e2) u3 rfl rfl ht) (hc:=?_)
  iterate 6 refine ov (hc:=?_)
  refine Z36 ?_
  refine d_ (fun hb=>?_) (fun hb=>?_)
  · have hqe:(q.nu == c3.exp)=true:=by rw [Bool.and_eq_true] at hb;exact hb.2
    repeat' first | refine s_ ?_ | fail
    refine kp [(27,rowV 8 3 p3.e1 (pD c3.ear) p3.e2),(0,.fn (.yield l) [] []),(1,.ref 2 0)] ⟨rfl,rfl,rfl,trivial⟩ ?_
    refine gq (p:=.ref 8 (rlo 3 p3.e1 (pD c3.ear) p3.e2 + (0:Int).toNat * 3)) (by exact rfl) (fun _ ht=>by exact Q_rowIndex (n:=(pD c3.ear).length) rfl rfl (by omega) (by rw [pD_len];exact_mod_cast hel) u42 sz28 ht) ?_
    refine gq (p:=.d (.agg [.int .i64 q.kd,.int .i64 q.nu,.str q.bo])) (by exact rfl) (fun _ ht=>by exact Q_rowElem (pre:=p3.e1) (xs:=pD c3.ear) (post:=p3.e2) (i:=0) (k:=3) rfl rfl (by rw [rlo_ne (pD_ne hel)];rfl) hq1 (row_k hp3.e1 (pD_k _) hp3.e2) (by decide) sz28 u28 rfl rfl ht) ?_
    repeat' first | refine s_ ?_ | fail
    refine fz true (by exact rfl) ?_ (by rw [hm3];decide) (by show (PV.refsBs 9 (ChA c3 p3 3 4 5 6 7 8) && (true && (true && (ChR c3 p3).all (PV.refsBs 9))))=true;rw [ChR_refs];rfl)
    refine kp [(3,.d (.ptr (.agg [.int .i64 q.kd,.int .i64 q.nu,.str q.bo]))),(0,.fn (.yield l) [] []),(1,.ref 2 0)] ⟨rfl,rfl,rfl,trivial⟩ ?_
    have hp4:Pp.Ok { p3 with e1:=p3.e1++pD (c3.ear.take 1) }:={ hp3 with e1:=k3_front hp3.e1 _ }
    have hf4:Ch.Few { c3 with ear:=c3.ear.drop 1 }:={ hf3 with ear:=by show (c3.ear.drop 1).length≤_;rw [List.length_drop];have:=hf3.ear;omega }
    refine ow [8] [Ch2 c3 p3,ChA { c3 with ear:=c3.ear.drop 1 } { p3 with e1:=p3.e1++pD (c3.ear.take 1) } 3 4 5 6 7 8 :: [.ref 0 0] :: [.ref 0 0] :: ChR c3 p3] (hc:=?_)
    iterate 2 refine vw 0 (hc:=?_)
    iterate 2 refine aw (hc:=?_)
    refine vw 0 (hc:=?_)
    refine qw 0 (p:=rowV 8 3 (p3.e1++pD (c3.ear.take 1)) (pD (c3.ear.drop 1)) p3.e2) (hmm:=rfl) (hs:=rfl) (hj:=rfl) (h:=fun _=>rfl) (hq:=fun rest _ ht=>?_) (hc:=?_)
    · rw [← row_frontE 8 p3.e1 p3.e2 c3.ear 1]
      exact Q_rowSlice (pre:=p3.e1) (xs:=pD c3.ear) (post:=p3.e2) (i:=1) rfl rfl rfl rfl u42 sz28 (by decide) (by rw [pD_len];omega)
    iterate 2 refine aw (hc:=?_)
    refine sw 0 (hc:=?_)
    refine Z25 ?_
    have hrow:ChR c3 p3=ChR { c3 with ear:=c3.ear.drop 1 } { p3 with e1:=p3.e1++pD (c3.ear.take 1) }:=by
     unfold ChR
     rw [frontE p3.e1 p3.e2 c3.ear 1]
    rw [hrow]
    iterate 2 refine s_ ?_
    refine kp [(3,.d (.ptr (.agg [.int .i64 q.kd,.int .i64 q.nu,.str q.bo]))),(0,.fn (.yield l) [] []),(1,.ref 2 0)] ⟨rfl,rfl,rfl,trivial⟩ ?_
    have hF4:dueN r.length (delC { c3 with ear:=r } q)=F:=by
     rw [← hF3,hear]
     show _=dueN (r.length + 1) c3
     conv=>rhs;unfold dueN
     rw [hear]
     show _=(if _ then _ else _)
     rw [hqe];rfl
    have hdr:c3.ear.drop 1=r:=by rw [hear];rfl
    rw [← hdr] at hF4
    have hd4:Ch.del { c3 with ear:=c3.ear.drop 1 }=c3.del:=rfl
    have he4:Ch.ear { c3 with ear:=c3.ear.drop 1 }=c3.ear.drop 1:=rfl
    have hel4:(c3.ear.drop 1).length + 1=c3.ear.length:=by rw [List.length_drop];omega
    generalize ({ c3 with ear:=c3.ear.drop 1 }:Ch)=c4 at hf4 hF4 hd4 he4 ⊢
    generalize ({ p3 with e1:=p3.e1++pD (c3.ear.take 1) }:Pp)=p4 at hp4 ⊢
    have hlw:l < w.heap.size:=(Array.getElem?_eq_some_iff.1 hl).1
    refine toC (G_regionIn 4 [0,1,2,3] rfl rfl ?_)
    refine GOpsIn_one (fun Q' h=>st (by exact rfl) h) ?_
    refine GOpsIn_one (fun Q' h=>st (by exact rfl) h) ?_
    refine GOpsIn_round (l:=l) (T:=fun s'=>∃ p':Pp,p'.Ok∧s'=⟨[(40,.d (.bool true)),(0,.fn (.yield l) [] []),(1,.ref 2 0)],Ch2 (delC c4 q) p'⟩) rfl rfl rfl rfl (fun S' O' m' a w' hrep=>?_) (fun s' hT=>?_)
    · have hml:m.length=9:=henv.mlen
      obtain ⟨hS',hO',hh'⟩:=hrep.env.apart hlw hS hO
      have hpre:m.take 3 <+: m':=hrep.pre
      have ht3:m'.take 3=m.take 3:=by
       have:=List.prefix_iff_eq_take.1 hpre
       rw [List.length_take,hml] at this
       exact this.symm
      have hg3:∀ i,i < 3→m'[i]? = m[i]?:=fun i hi=>by
       rw [← List.getElem?_take_of_lt (l:=m') hi,ht3,List.getElem?_take_of_lt hi]
      have h1':RP w' S' O' m' l1 (.ref 1 0) (tmps.getD 2 undef):=by
       generalize tmps.getD 2 undef=u at ht
       cases ht with | ref _ _ _ r h=>exact .ref _ _ _ r (by rw [hg3 1 (by decide)];exact h)
      have hv':=hrep.slots 39 _ rfl
      refine ⟨recX fn tmps #[46] asg60 bod60 D,hh'.trans hl,rfl,?_⟩
      refine (round60 c4 p4 hp4 hf4 q hrep.env.rebase (hh'.trans hl) hS' hO' hsz h1' hv').mono ?_
      rintro e w2 ⟨rfl,p',S3,O3,m3,hp',henv3,hpre3⟩
      have hpk:m.take 3 <+: m3:=by rw [← ht3];exact hpre3
      have ht33:m3.take 3=m.take 3:=by
       have:=List.prefix_iff_eq_take.1 hpk
       rw [List.length_take,hml] at this
       exact this.symm
      have hg33:∀ i,i < 3→m3[i]? = m'[i]?:=fun i hi=>by
       rw [hg3 i hi,← List.getElem?_take_of_lt (l:=m3) hi,ht33,List.getElem?_take_of_lt hi]
      have hsza:a.tmps.size=42:=hrep.size
      refine ⟨.bool true,_,rfl,⟨p',hp',rfl⟩,S3,O3,m3,Env.trans hrep.env henv3,hrep.defers,by show (a.tmps.setIfInBounds 40 (.bool true)).size=42;simp [hsza],hpk,fun i pv hpv=>?_⟩
      have hpv':[(40,PV.d (.bool true)),(0,.fn (.yield l) [] []),(1,.ref 2 0)].lookup i=some pv:=hpv
      show RP w2 S3 O3 m3 [i,0] pv ((a.tmps.setIfInBounds 40 (.bool true)).getD i undef)
      by_cases h40:i=40
      · subst h40
        injection hpv' with hpv'
        subst hpv'
        rw [Array.getD_eq_getD_getElem?,Array.getElem?_setIfInBounds_self_of_lt (by omega)]
        exact .d _ _ _ (.bool true)
      have hget:(a.tmps.setIfInBounds 40 (.bool true)).getD i undef=a.tmps.getD i undef:=by
       rw [Array.getD_eq_getD_getElem?,Array.getD_eq_getD_getElem?,Array.getElem?_setIfInBounds_ne (fun h=>h40 h.symm)]
      rw [hget]
      rw [List.lookup_cons,show (i == 40)=false by simpa using h40] at hpv'
      by_cases h0:i=0
      · subst h0
        injection hpv' with hpv'
        subst hpv'
        have h2:=hrep.slots 0 _ rfl
        generalize a.tmps.getD 0 undef=u at h2
        cases h2 with
        | fn _ _ _ _ vf vc g1 g2 _ _=>exact .fn _ _ _ _ vf vc g1 g2 (fun i p v hp=>by simp at hp) (fun i p v hp=>by simp at hp)
      · dsimp only at hpv'
        rw [List.lookup_cons,show (i == 0)=false by simpa using h0] at hpv'
        by_cases h1:i=1
        · subst h1
          injection hpv' with hpv'
          subst hpv'
          have h2:=hrep.slots 1 _ rfl
          generalize a.tmps.getD 1 undef=u at h2
          cases h2 with | ref _ _ _ r h=>exact .ref _ _ _ r (by rw [hg33 2 (by decide)];exact h)
        · dsimp only at hpv'
          rw [List.lookup_cons,show (i == 1)=false by simpa using h1] at hpv'
          cases hpv'
    · obtain ⟨p5,hp5,rfl⟩:=hT
      refine GOpsIn_one (fun Q' h=>st (by exact rfl) h) ?_
      refine GOpsIn_nil ?_
      refine (show GF ⟨Tryd.prog,42,S,O,w,m.take 3,[],[]⟩ [Fr.thn (Code.cond (Operand.tmp 41) Code.ret Code.skip),Fr.blk 1] (.leave .normal) Q' _ from ?_)
      refine Z17 ?_;refine Z1 ?_
      repeat' first | refine s_ ?_ | fail
      have hdl:(delC c4 q).ear=c4.ear:=rfl
      refine toL (hn _ (delC c4 q,p5) ⟨hp5,delC_few hf4 q (by rw [hd4];omega),?_,?_⟩ ?_ (leKp ⟨rfl,rfl,trivial⟩))
      · show (c4.del++[q.bo]).length + c4.ear.length≤900000
        rw [List.length_append,hd4,he4];simp;omega
      · show dueN c4.ear.length (delC c4 q)=F
        rw [he4]
        exact hF4
      · show c4.ear.length < c3.ear.length
        rw [he4];omega
  · have hne:(q.nu == c3.exp)=false:=by
     rw [pD_len,hear] at hb
     simpa using hb
    have hst:c3=F:=by
     rw [hear] at hF3
     rw [← hF3]
     show _=dueN (r.length + 1) c3
     conv=>rhs;unfold dueN
     rw [hear]
     show _=(if _ then _ else _)
     rw [hne];rfl
    subst hst
    repeat' first | refine s_ ?_ | fail
    refine Z15 ?_
    repeat' first | refine s_ ?_ | fail
    exact Y0
end
section
def ixE (n:Int):List Pk→Nat
 | []=>0
 | q :: r=>if q.nu < n then ixE n r + 1 else 0
def SortedE (l:List Pk):Prop:=∀ (i j:Nat) (a b:Pk),l[i]? = some a→l[j]? = some b→i < j→a.nu < b.nu
def BdE (l:List Pk):Prop:=∀ q ∈ l,0≤q.nu∧q.nu≤1000000000
theorem ixE_of {n:Int}:∀ {l:List Pk} {i:Nat},i≤l.length→(∀ k q,k < i→l[k]? = some q→q.nu < n)→(∀ q,l[i]? = some q→¬ q.nu < n)→ixE n l=i
 | [],i,h,_,_=>by
  have h0:i=0:=Nat.le_zero.1 h
  subst h0;rfl
 | q :: r,0,_,_,h2=>by unfold ixE;rw [if_neg (h2 q rfl)]
 | q :: r,i + 1,h,h1,h2=>by
  unfold ixE
  rw [if_pos (h1 0 q (Nat.succ_pos i) rfl),ixE_of (by simpa using h) (fun k q hk hq=>h1 (k + 1) q (by omega) hq) (fun q hq=>h2 q hq)]
theorem c67 (q:Pk) (n:Int) (hq:0≤q.nu∧q.nu≤1000000000) (hn:0≤n∧n≤1000000000):Pf Tryd.prog 67 [q.d,.int .i64 n] (.d (.int .i64 (q.nu - n))):=by
 unfold Pk.d
 refine pfb Tryd.func67 Tryd.ntmps67 Tryd.results67 (fun S0 O0 w0 m0 hm0=>?_)
 repeat' first | refine s_ ?_ | fail
 exact en (by exact rfl) (by rw [show IntKind.i64.wrap (q.nu - n)=q.nu - n by simp [IntKind.wrap,IntKind.signed,IntKind.bits];omega])
set_option maxRecDepth 100000 in
theorem c66 (l:List Pk) (pre post:List D) (n:Int) (hpre:∀ x ∈ pre,x.cells.length=3) (hpost:∀ x ∈ post,x.cells.length=3) (hs:SortedE l) (hb:BdE l) (hn:0≤n∧n≤1000000000) (hl:l.length≤1000000):
 Gm Tryd.prog 66 [rowV 0 3 pre (pD l) post,.d (.int .i64 n),.fn (.func 67) [] []] [flat (pre++pD l++post)] (.tup [.d (.int .i64 (ixE n l:Int)),.d (.bool (decide (∃ q,l[ixE n l]? = some q∧q.nu=n)))]) [flat (pre++pD l++post)]:=by
 refine gmB 1 Tryd.func66 Tryd.ntmps66 Tryd.results66 (fun S0 O0 w0 m0 hm0=>?_)
 repeat' first | refine s_ ?_ | fail
 refine gLo (fun x:Nat×Nat=>⟨[(0,rowV 0 3 pre (pD l) post),(1,.d (.int .i64 n)),(2,.fn (.func 67) [] []),(8,.d (.int .i64 ((pD l).length:Int))),(9,.d (.int .i64 (x.1:Int))),(10,.d (.int .i64 (x.2:Int)))],[flat (pre++pD l++post)]⟩) (fun x=>x.2 - x.1) (fun x=>x.1≤x.2∧x.2≤l.length∧(∀ k q,k < x.1→l[k]? = some q→q.nu < n)∧(∀ k q,x.2≤k→l[k]? = some q→¬ q.nu < n)) (0,(pD l).length) ⟨Nat.zero_le _,by rw [pD_len];exact Nat.le_refl _,fun k q hk=>absurd hk (Nat.not_lt_zero _),fun k q hk hq=>absurd (lG hq) (by rw [pD_len] at hk;exact Nat.not_lt_of_le hk)⟩ (leKp ⟨rfl,rfl,rfl,rfl,rfl,rfl,trivial⟩) (fun x hx Q' hn' he hr hpp=>?_)
 obtain ⟨i,j⟩:=x
 obtain ⟨h1,h2,h3,h4⟩:i≤j∧j≤l.length∧(∀ k q,k < i→l[k]? = some q→q.nu < n)∧(∀ k q,j≤k→l[k]? = some q→¬ q.nu < n):=hx
 refine (show GF _ _ _ _ ⟨[(0,rowV 0 3 pre (pD l) post),(1,.d (.int .i64 n)),(2,.fn (.func 67) [] []),(8,.d (.int .i64 ((pD l).length:Int))),(9,.d (.int .i64 (i:Int))),(10,.d (.int .i64 (j:Int)))],[flat (pre++pD l++post)]⟩ from ?_)
 have hkk:=row_k hpre (pD_k l) hpost
 repeat' first | refine s_ ?_ | fail
 refine cd (by exact rfl) (fun hb'=>?_) (fun hb'=>?_)
 · have hij:i < j:=by have:=oR hb';omega
   obtain ⟨h,hh⟩:∃ h,h=(i + j) / 2:=⟨_,rfl⟩
   have hhl:h < l.length:=by omega
   obtain ⟨q,hq⟩:∃ q,l[h]? = some q:=⟨_,gE hhl⟩
   have hqb:=hb q (mG hq)
   have hv:IntKind.i64.wrap ((IntKind.u64.wrap (IntKind.i64.wrap ((i:Int) + (j:Int)))).fdiv (2 ^ min 1 IntKind.u64.bits))=(h:Int):=by
    rw [show IntKind.i64.wrap ((i:Int) + (j:Int))=(i:Int) + (j:Int) by simp [IntKind.wrap,IntKind.signed,IntKind.bits];omega]
    rw [show IntKind.u64.wrap ((i:Int) + (j:Int))=(i:Int) + (j:Int) by simp [IntKind.wrap,IntKind.signed,IntKind.bits];omega]
    rw [show (2:Int) ^ min 1 IntKind.u64.bits=2 from rfl,Int.fdiv_eq_ediv_of_nonneg _ (by decide)]
    rw [show ((i:Int) + (j:Int)) / 2=(h:Int) by omega]
    exact Y1
   repeat' first | refine s_ ?_ | refine zz (by exact rfl) ?_ | fail
   rw [hv]
   have hq':(pD l)[h]? = some (.agg [.int .i64 q.kd,.int .i64 q.nu,.str q.bo]):=pD_get hq
   refine gq (p:=.ref 0 (rlo 3 pre (pD l) post + (h:Int).toNat * 3)) (by exact rfl) (fun _ ht=>by exact Q_rowIndex (n:=(pD l).length) rfl rfl (by omega) (by rw [pD_len];exact_mod_cast hhl) u42 sz28 ht) ?_
   refine gq (p:=.d (.agg [.int .i64 q.kd,.int .i64 q.nu,.str q.bo])) (by exact rfl) (fun _ ht=>by exact Q_rowElem (pre:=pre) (xs:=pD l) (post:=post) (i:=h) (k:=3) rfl rfl (by rw [rlo_ne (pD_ne hhl)];rfl) hq' hkk (by decide) sz28 u28 rfl rfl ht) ?_
   refine Z17 ?_
   refine cl (by exact rfl) (c67 q n hqb hn) ?_
   refine Z17 ?_
   repeat' first | refine s_ ?_ | fail
   refine d_ (fun hc=>?_) (fun hc=>?_)
   · have hlt:q.nu < n:=by have:=oR hc;omega
     repeat' first | refine s_ ?_ | fail
     rw [show IntKind.i64.wrap ((h:Int) + 1)=((h + 1:Nat):Int) by simp [IntKind.wrap,IntKind.signed,IntKind.bits];omega]
     refine toL (hn' _ (h + 1,j) ⟨by omega,h2,fun k q' hk hq2=>?_,h4⟩ (by show j - (h + 1) < j - i;omega) (leKp ⟨rfl,rfl,rfl,rfl,rfl,rfl,trivial⟩))
     by_cases hkh:k=h
     · subst hkh;rw [hq] at hq2;injection hq2 with hq2;subst hq2;exact hlt
     · have:=hs k h q' q hq2 hq (by show k < h;have:k < h + 1:=hk;omega);omega
   · have hge:¬ q.nu < n:=by have:=of_decide_eq_false hc;omega
     repeat' first | refine s_ ?_ | fail
     refine toL (hn' _ (i,h) ⟨by omega,by omega,h3,fun k q' hk hq2=>?_⟩ (by show h - i < j - i;omega) (leKp ⟨rfl,rfl,rfl,rfl,rfl,rfl,trivial⟩))
     by_cases hkh:k=h
     · subst hkh;rw [hq] at hq2;injection hq2 with hq2;subst hq2;exact hge
     · have:=hs h k q q' hq hq2 (by have:h≤k:=hk;omega);omega
 · have hij:i=j:=by have:=of_decide_eq_false hb';omega
   subst hij
   have hix:ixE n l=i:=ixE_of h2 h3 (fun q hq=>h4 i q (Nat.le_refl _) hq)
   repeat' first | refine s_ ?_ | fail
   refine Z15 ?_
   rw [hix]
   by_cases hil:i < l.length
   · obtain ⟨q,hq⟩:∃ q,l[i]? = some q:=⟨_,gE hil⟩
     have hqb:=hb q (mG hq)
     have hq':(pD l)[i]? = some (.agg [.int .i64 q.kd,.int .i64 q.nu,.str q.bo]):=pD_get hq
     have hgd:(decide ((i:Int) < ((pD l).length:Int)) == true)=true:=by rw [pD_len];simpa using hil
     repeat' (fail_if_success with_reducible refine ar 8 ?_);first | refine s_ ?_ | fail
     iterate 7 refine s_ ?_
     refine gOn (by exact rfl) hgd rfl rfl rfl rfl rfl (oR rfl) (st (by exact rfl) (gOnEnd ?_))
     repeat' first | refine s_ ?_ | fail
     refine gq (p:=.ref 0 (rlo 3 pre (pD l) post + (i:Int).toNat * 3)) (by exact rfl) (fun _ ht=>by exact Q_rowIndex (n:=(pD l).length) rfl rfl (by omega) (by rw [pD_len];exact_mod_cast hil) u42 sz28 ht) ?_
     refine gq (p:=.d (.agg [.int .i64 q.kd,.int .i64 q.nu,.str q.bo])) (by exact rfl) (fun _ ht=>by exact Q_rowElem (pre:=pre) (xs:=pD l) (post:=post) (i:=i) (k:=3) rfl rfl (by rw [rlo_ne (pD_ne hil)];rfl) hq' hkk (by decide) sz28 u28 rfl rfl ht) ?_
     refine Z17 ?_
     refine clg (by exact rfl) (fun _=>c67 q n hqb hn) ?_
     repeat' first | refine s_ ?_ | fail
     have hfin:(decide ((i:Int) < ((pD l).length:Int)) && q.nu - n == 0)=decide (∃ q,l[i]? = some q∧q.nu=n):=by
      have h1:decide ((i:Int) < ((pD l).length:Int))=true:=by simpa using hgd
      rw [h1,Bool.true_and]
      by_cases hqn:q.nu=n
      · have h2:decide (∃ q,l[i]? = some q∧q.nu=n)=true:=decide_eq_true ⟨q,hq,hqn⟩
        rw [h2,hqn];simp
      · have h2:decide (∃ q,l[i]? = some q∧q.nu=n)=false:=decide_eq_false (fun ⟨q',hq2,hn2⟩=>by rw [hq] at hq2;injection hq2 with hq2;subst hq2;exact hqn hn2)
        rw [h2,beq_eq_false_iff_ne];omega
     exact enm (mem':=[flat (pre++pD l++post)]) (by exact rfl) (by rw [← hfin]) (.cons (CSub_flat _ _) .nil)
   · have hgd:decide ((i:Int) < ((pD l).length:Int))=false:=by rw [pD_len];simpa using hil
     have hgf:(decide ((i:Int) < ((pD l).length:Int)) == true)=false:=by rw [hgd];rfl
     repeat' first | refine s_ ?_ | fail
     refine gq (p:=.d (.ptr (.agg [.int .i64 0,.int .i64 0,.str ByteArray.empty]))) (by exact rfl) (fun hg _=>absurd hg (by intro h;simp [isT] at h;rw [pD_len] at h;exact hil (by exact_mod_cast h))) ?_
     repeat' first | refine s_ ?_ | fail
     refine sk (by exact rfl) hgd ?_
     refine sk (by exact rfl) hgd ?_
     repeat' first | refine s_ ?_ | fail
     have hfin:decide (∃ q,l[i]? = some q∧q.nu=n)=false:=decide_eq_false (fun ⟨q',hq2,_⟩=>hil (lG hq2))
     exact enm (mem':=[flat (pre++pD l++post)]) (by exact rfl) (by rw [hfin];simp) (.cons (CSub_flat _ _) .nil)
end
end Go.Proofs.YtoonleefemkalaaDoor
namespace Go.Proofs.YtoonleefemkalaaDoor
open Go Go.Proofs Go.RowKit Go.Lib Go.Shelf
theorem run_copyK {P:Program} (k:Nat) (w:World) (dT sT ty elem:TypeId) (b o dLen dCap:Nat) (a:Addr) (sLen sCap:Nat) (cs:List Value)
 (hu:P.underlying dT=some (.slice elem)) (hs:(P.info? elem).map (·.size)=some k) (hn:cs.length=Nat.min sLen dLen * k)
 (hsrc:∀ j v,cs[j]? = some v→w.cell? (a.add j)=some v) (hc:∀ j,j < cs.length→(w.cell? ⟨b,o + j,none⟩).isSome=true) (hf:∀ j,j < cs.length→w.frozen? ⟨b,o + j,none⟩=false) (h1:∀ v ∈ cs,v.oneCell'=true):
 (Builtin.copy_ #[dT,sT] ty #[.slice (some ⟨b,o,none⟩) dLen dCap,.slice (some a) sLen sCap]).run P w=.ok (goInt (Nat.min sLen dLen)) (w.setCells b o cs):=by
 have hl:=run_loadCells_list (P:=P) w a cs hsrc
 have hst:=run_storeCells_cells (P:=P) b o cs 0 w (by simpa using hc) (by simpa using hf) h1
 cases hq:P.info? elem with
 | none=>simp [hq] at hs
 | some i=>
  have hi:i.size=k:=by simpa [hq] using hs
  simp [Builtin.copy_,run_underlying hu,Builtin.lenOf,Builtin.firstCells,sizeOf,typeInfo,hq,hi,← hn,hl,hst]
theorem sz28x:(Tryd.prog.info? 28).map (·.size)=some 3:=by kernel_rfl
theorem z28x (w:World):(Go.sizeOf 28).run Tryd.prog w=.ok 3 w:=by kernel_rfl
theorem uu42:Tryd.prog.underlying 42=some (.slice 28):=by kernel_rfl
set_option maxHeartbeats 8000000 in
set_option maxRecDepth 100000 in
theorem ins_shift (b off n c i vb voff vc:Nat) (cs vs:List Value) (w:World) (hi:i < n) (hroom:n + 1≤c) (hc63:c≤9223372036854775807) (hvb:vb ≠ b)
 (hcl:cs.length=n * 3) (hvl:vs.length=3)
 (hcs:∀ j v,cs[j]? = some v→w.cell? ⟨b,off + j,none⟩=some v) (hsp:∀ j,j < (n + 1) * 3→(w.cell? ⟨b,off + j,none⟩).isSome=true) (hfz:∀ j,j < (n + 1) * 3→w.frozen? ⟨b,off + j,none⟩=false)
 (hvs:∀ j v,vs[j]? = some v→w.cell? ⟨vb,voff + j,none⟩=some v) (h1c:∀ v ∈ cs,v.oneCell'=true) (h1v:∀ v ∈ vs,v.oneCell'=true)
 (tA tB:TypeId) (kA kB:Nat) (hsa:w.shape? vb=some (tA,kA)) (hsb:w.shape? b=some (tB,kB)) (hkB:kB ≠ 0) (hfa:w.frozen? ⟨vb,voff,none⟩=false) (hfe:w.frozen? ⟨vb,kA,none⟩=false):
 Calls Tryd.prog 68 #[.slice (some ⟨b,off,none⟩) n c,.int .i64 i,.slice (some ⟨vb,voff,none⟩) 1 vc] w fun e w'=>
  e=.returned (.slice (some ⟨b,off,none⟩) (n + 1) c)∧w'=(w.drew.setCells b (off + (i + 1) * 3) (cs.drop (i * 3))).setCells b (off + i * 3) vs:=by
 have mixed:Tryd.prog.follows .mixedOrders=true:=by kernel_rfl
 have hz2:¬ ((i:Int)=(n:Int)):=by omega
 have hov:∀ lb cb o2,(callFunc 72 #[.slice (some ⟨vb,voff,none⟩) 1 vc,.slice (some ⟨b,o2,none⟩) lb cb]).run Tryd.prog w=.ok (.value (.bool false)) w:=fun lb cb o2=>by
  rw [run_callFunc_extern Tryd.func72 (by kernel_rfl) (by kernel_rfl) (by kernel_rfl) (e:=Extern.SlicesOverlaps.overlaps #[42,42] #[4]) (by kernel_rfl),
   Lib.run_overlaps_apart w 42 4 28 uu42 3 z28x ⟨vb,voff,none⟩ ⟨b,o2,none⟩ 1 vc lb cb hvb tA tB kA kB hsa hsb hkB hfa hfe]
  rfl
 have hdl:(cs.drop (i * 3)).length=(n - i) * 3:=by rw [List.length_drop,hcl];omega
 have hw1:IntKind.i64.wrap ((i:Int) + 1)=(i:Int) + 1:=by rw [IntKind.wrap_i64];omega
 have hw2:IntKind.i64.wrap ((n:Int) + 1)=(n:Int) + 1:=by rw [IntKind.wrap_i64];omega
 have hb1:(0:Int)≤(i:Int) + 1:=by omega
 have hin:i≤n:=by omega
 have htn:((i:Int) + 1).toNat=i + 1:=by omega
 have htn2:((n:Int) + 1).toNat=n + 1:=by omega
 have hb2:¬ (c=i + 1):=by omega
 have hb3:(i:Int)≤(n:Int) + 1:=by omega
 have hb4:¬ (c=i):=by omega
 have hb5:¬ ((c:Int) < (n:Int) + 1):=by omega
 have hcp1:∀ ty dc sc,(Builtin.copy_ #[42,42] ty #[.slice (some ⟨b,off + (i + 1) * 3,none⟩) (n - i) dc,.slice (some ⟨b,off + i * 3,none⟩) (n + 1 - i) sc]).run Tryd.prog w.drew=.ok (goInt ((n - i:Nat):Int)) (w.drew.setCells b (off + (i + 1) * 3) (cs.drop (i * 3))):=fun ty dc sc=>by
  have hmn:Nat.min (n + 1 - i) (n - i)=n - i:=by simp only [Nat.min_def];split<;>omega
  have h:=run_copyK 3 w.drew 42 42 ty 28 b (off + (i + 1) * 3) (n - i) dc ⟨b,off + i * 3,none⟩ (n + 1 - i) sc (cs.drop (i * 3)) uu42 sz28x (by rw [hdl,hmn])
   (fun j v hj=>by rw [Addr.add_lit,Nat.add_assoc];exact hcs (i * 3 + j) v (by rwa [List.getElem?_drop] at hj))
   (fun j hj=>by rw [Nat.add_assoc];exact hsp _ (by omega)) (fun j hj=>by rw [Nat.add_assoc];exact hfz _ (by omega)) (fun v hv=>h1c v (List.mem_of_mem_drop hv))
  rw [hmn] at h
  exact h
 obtain ⟨W1,hW1⟩:∃ W1,W1=w.drew.setCells b (off + (i + 1) * 3) (cs.drop (i * 3)):=⟨_,rfl⟩
 have hsp1:∀ k,k < (n + 1) * 3→(W1.cell? ⟨b,off + k,none⟩).isSome=true:=fun k hk=>by
  rw [hW1]
  exact isSome_setCells b _ _ _ (fun j hj=>by rw [Nat.add_assoc];exact hsp _ (by omega)) _ (hsp k hk)
 have hcp2:∀ (W:World),(∀ x,W.cell? x=W1.cell? x)→(∀ x,W.frozen? x=W1.frozen? x)→∀ ty dc,(Builtin.copy_ #[42,42] ty #[.slice (some ⟨b,off + i * 3,none⟩) (n + 1 - i) dc,.slice (some ⟨vb,voff,none⟩) 1 vc]).run Tryd.prog W=.ok (goInt 1) (W.setCells b (off + i * 3) vs):=fun W hWc hWf ty dc=>by
  have hmn:Nat.min 1 (n + 1 - i)=1:=by simp only [Nat.min_def];split<;>omega
  have h:=run_copyK 3 W 42 42 ty 28 b (off + i * 3) (n + 1 - i) dc ⟨vb,voff,none⟩ 1 vc vs uu42 sz28x (by rw [hvl,hmn])
   (fun j v hj=>by
    rw [Addr.add_lit,hWc,hW1,World.cell?_setCells_out b _ _ _ _ (fun h _=>absurd h hvb)]
    exact hvs j v hj)
   (fun j hj=>by rw [hWc,Nat.add_assoc];exact hsp1 _ (by omega)) (fun j hj=>by rw [hWf,hW1,World.frozen?_setCells,Nat.add_assoc];exact hfz _ (by omega)) h1v
  rw [hmn] at h
  exact h
 rw [← hW1] at hcp1
 go_enter Tryd.func68,Tryd.ntmps68
 go_wp2_with (simp only [hov])
 go_region_law_o (refine step_copy_runI rfl _ _ 42 42 rfl _ _ (by simp [Act.eval,Act.put]) (by simp [Act.eval,Act.put]) (hcp1 _ _ _) ?_)
 go_wp2_with (at_builtin;refine wpList_copy_runI _ rfl _ _ 42 42 rfl _ _ rfl rfl (hcp2 _ (fun _=>rfl) (fun _=>rfl) _ _) ?_)
 go_ret
 first | exact ⟨rfl,rfl⟩ | exact ⟨rfl,by rw [hW1]⟩
theorem i28:(Tryd.prog.info? 28).map (fun i=>(i.zero,i.size,i.bytes))=some (some (.agg #[.int .i64 0,.int .i64 0,.string ⟨#[]⟩]),3,32):=by kernel_rfl
set_option maxHeartbeats 8000000 in
set_option maxRecDepth 100000 in
theorem ins_grow (b off n c i vb voff vc:Nat) (cs vs:List Value) (w:World) (hi:i < n) (hnc:n≤c) (hroom:c < n + 1) (hbig:(n + 1) * 32≤140737488355328)
 (hcl:cs.length=n * 3) (hvl:vs.length=3)
 (hcs:∀ j v,cs[j]? = some v→w.cell? ⟨b,off + j,none⟩=some v)
 (hvs:∀ j v,vs[j]? = some v→w.cell? ⟨vb,voff + j,none⟩=some v) (h1c:∀ v ∈ cs,v.oneCell'=true) (h1v:∀ v ∈ vs,v.oneCell'=true):
 Calls Tryd.prog 68 #[.slice (some ⟨b,off,none⟩) n c,.int .i64 i,.slice (some ⟨vb,voff,none⟩) 1 vc] w fun e w'=>
  e=.returned (.slice (some ⟨w.heap.size,0,none⟩) (n + 1) (grownCap w (n + 1) c 28))∧
  w'=(((w.alloc (.cells ((cs.take (i * 3)).toArray++Builtin.zeroCells (Value.agg #[.int .i64 0,.int .i64 0,.string ⟨#[]⟩]).cells (n + 1 - i)++Builtin.zeroCells (Value.agg #[.int .i64 0,.int .i64 0,.string ⟨#[]⟩]).cells (grownCap w (n + 1) c 28 - (n + 1))) 28)).drew.setCells w.heap.size (i * 3) vs).drew).setCells w.heap.size ((i + 1) * 3) (cs.drop (i * 3)):=by
 have mixed:Tryd.prog.follows .mixedOrders=true:=by kernel_rfl
 obtain ⟨i0,hi0,hz0,hzs,hzb⟩:=info_parts i28
 have hz2:¬ ((i:Int)=(n:Int)):=by omega
 have hz3:(c:Int) < (n:Int) + 1:=by omega
 have hbw:b < w.heap.size:=block_lt_of_cell (hcs 0 _ (E.gE (by omega)))
 have hvw:vb < w.heap.size:=block_lt_of_cell (hvs 0 _ (E.gE (by omega)))
 have hkk:(n:Int) + 1 - (i:Int)=((n + 1 - i:Nat):Int):=by omega
 have hik:i + (n + 1 - i)=n + 1:=by omega
 have hold:(Builtin.firstCells i0.size i (.slice (some ⟨b,off,none⟩) i c)).run Tryd.prog w.drew=.ok (cs.take (i * 3)).toArray w.drew:=by
  rw [hzs]
  exact run_firstCells_some w.drew 3 i ⟨b,off,none⟩ i c (cs.take (i * 3)) (by rw [List.length_take];omega) (fun j v hj=>by
   rw [Addr.add_lit]
   rw [List.getElem?_take] at hj
   split at hj
   · exact hcs j v hj
   · cases hj)
 have hrz:∀ ty,(Builtin.append_ #[42,3] ty #[.slice (some ⟨b,off,none⟩) i c,.int .i64 ((n:Int) + 1 - (i:Int))]).run Tryd.prog w=
  .ok (.slice (some ⟨w.heap.size,0,none⟩) (n + 1) (grownCap w (n + 1) c 28)) (w.drew.alloc (.cells ((cs.take (i * 3)).toArray++Builtin.zeroCells (Value.agg #[.int .i64 0,.int .i64 0,.string ⟨#[]⟩]).cells (n + 1 - i)++Builtin.zeroCells (Value.agg #[.int .i64 0,.int .i64 0,.string ⟨#[]⟩]).cells (grownCap w (n + 1) c 28 - (n + 1))) 28)):=fun ty=>by
  have h:=Lib.run_append_grow_zeros w 42 3 ty 28 i0 _ .i64 .i64 uu42 u3 hi0 hz0 (some ⟨b,off,none⟩) i c (cs.take (i * 3)) hold (n + 1 - i) (by omega) (by omega) (by omega) (by omega) (by rw [hzb];omega) (by rw [hzb,hik];exact growslice_fits hroom hbig)
  rw [hik] at h
  rw [hkk]
  exact h
 obtain ⟨Gc,hG⟩:∃ Gc,Gc=grownCap w (n + 1) c 28:=⟨_,rfl⟩
 obtain ⟨ROW,hROW⟩:∃ ROW:Array Value,ROW=(cs.take (i * 3)).toArray++Builtin.zeroCells (Value.agg #[.int .i64 0,.int .i64 0,.string ⟨#[]⟩]).cells (n + 1 - i)++Builtin.zeroCells (Value.agg #[.int .i64 0,.int .i64 0,.string ⟨#[]⟩]).cells (Gc - (n + 1)):=⟨_,rfl⟩
 rw [← hG] at hrz ⊢
 rw [← hROW] at hrz ⊢
 have hRl:(n + 1) * 3≤ROW.size:=by
  rw [hROW]
  simp [Builtin.zeroCells,Value.cells]
  omega
 obtain ⟨W1,hW1⟩:∃ W1,W1=w.drew.alloc (.cells ROW 28):=⟨_,rfl⟩
 rw [← hW1] at hrz
 have hN:∀ j,j < (n + 1) * 3→(W1.cell? ⟨w.heap.size,j,none⟩).isSome=true:=fun j hj=>by
  rw [hW1,World.cell?_alloc_at (w:=w.drew) ROW _ w.heap.size j rfl,Array.getElem?_eq_getElem (by omega)];rfl
 have hNf:∀ j,W1.frozen? ⟨w.heap.size,j,none⟩=false:=fun j=>by rw [hW1];exact World.frozen?_alloc_at (w:=w.drew) ROW _ w.heap.size j rfl
 have hOb:∀ j v,w.cell? ⟨b,j,none⟩=some v→W1.cell? ⟨b,j,none⟩=some v:=fun j v h=>by rw [hW1,World.cell?_alloc_past (w:=w.drew) _ b j hbw];exact h
 have hOv:∀ j v,w.cell? ⟨vb,j,none⟩=some v→W1.cell? ⟨vb,j,none⟩=some v:=fun j v h=>by rw [hW1,World.cell?_alloc_past (w:=w.drew) _ vb j hvw];exact h
 have hcpA:∀ (W:World),(∀ x,W.cell? x=W1.cell? x)→(∀ x,W.frozen? x=W1.frozen? x)→∀ ty dc,(Builtin.copy_ #[42,42] ty #[.slice (some ⟨w.heap.size,i * 3,none⟩) (n + 1 - i) dc,.slice (some ⟨vb,voff,none⟩) 1 vc]).run Tryd.prog W=.ok (goInt 1) (W.setCells w.heap.size (i * 3) vs):=fun W hWc hWf ty dc=>by
  have hmn:Nat.min 1 (n + 1 - i)=1:=by simp only [Nat.min_def];split<;>omega
  have h:=run_copyK 3 W 42 42 ty 28 w.heap.size (i * 3) (n + 1 - i) dc ⟨vb,voff,none⟩ 1 vc vs uu42 sz28x (by rw [hvl,hmn])
   (fun j v hj=>by rw [Addr.add_lit,hWc];exact hOv _ v (hvs j v hj))
   (fun j hj=>by rw [hWc];exact hN _ (by omega)) (fun j hj=>by rw [hWf];exact hNf _) h1v
  rw [hmn] at h
  exact h
 have hGn:n + 1≤Gc:=by rw [hG];exact grownCap_ge w _ _ _
 have hG63:Gc≤9223372036854775807:=by
  have:=grownCap_le_maxLen w (n + 1) c 28 (by unfold maxLen;omega)
  rw [← hG] at this
  unfold maxLen at this
  omega
 have hGi:¬ (Gc=i):=by omega
 have hGim:¬ (Gc=i + 1):=by omega
 have hci:¬ (c=i):=by omega
 have hbN:b ≠ w.heap.size:=by omega
 have hdl:(cs.drop (i * 3)).length=(n - i) * 3:=by rw [List.length_drop,hcl];omega
 have hcpB:∀ (W:World),(∀ x,W.cell? x=(W1.setCells w.heap.size (i * 3) vs).cell? x)→(∀ x,W.frozen? x=(W1.setCells w.heap.size (i * 3) vs).frozen? x)→∀ ty dc sc,(Builtin.copy_ #[42,42] ty #[.slice (some ⟨w.heap.size,(i + 1) * 3,none⟩) (n - i) dc,.slice (some ⟨b,off + i * 3,none⟩) (n - i) sc]).run Tryd.prog W=.ok (goInt ((n - i:Nat):Int)) (W.setCells w.heap.size ((i + 1) * 3) (cs.drop (i * 3))):=fun W hWc hWf ty dc sc=>by
  have hmn:Nat.min (n - i) (n - i)=n - i:=Nat.min_self _
  have h:=run_copyK 3 W 42 42 ty 28 w.heap.size ((i + 1) * 3) (n - i) dc ⟨b,off + i * 3,none⟩ (n - i) sc (cs.drop (i * 3)) uu42 sz28x (by rw [hdl,hmn])
   (fun j v hj=>by
    rw [Addr.add_lit,hWc,World.cell?_setCells_out _ _ _ _ _ (fun h _=>absurd h hbN),Nat.add_assoc]
    exact hOb _ v (hcs (i * 3 + j) v (by rwa [List.getElem?_drop] at hj)))
   (fun j hj=>by rw [hWc];exact isSome_setCells _ _ _ _ (fun t ht=>hN _ (by omega)) _ (hN _ (by omega)))
   (fun j hj=>by rw [hWf,World.frozen?_setCells];exact hNf _) (fun v hv=>h1c v (List.mem_of_mem_drop hv))
  rw [hmn] at h
  exact h
 subst hW1
 have hE1:∀ x,((w.alloc (.cells ROW 28)).drew).cell? x=(w.drew.alloc (.cells ROW 28)).cell? x:=fun x=>rfl
 have hE2:∀ x,((w.alloc (.cells ROW 28)).drew).frozen? x=(w.drew.alloc (.cells ROW 28)).frozen? x:=fun x=>rfl
 have hF1:∀ x,(((w.alloc (.cells ROW 28)).drew.setCells w.heap.size (i * 3) vs).drew).cell? x=((w.drew.alloc (.cells ROW 28)).setCells w.heap.size (i * 3) vs).cell? x:=fun x=>rfl
 have hF2:∀ x,(((w.alloc (.cells ROW 28)).drew.setCells w.heap.size (i * 3) vs).drew).frozen? x=((w.drew.alloc (.cells ROW 28)).setCells w.heap.size (i * 3) vs).frozen? x:=fun x=>rfl
 have hw1:IntKind.i64.wrap ((i:Int) + 1)=(i:Int) + 1:=by rw [IntKind.wrap_i64];omega
 have hw2:IntKind.i64.wrap ((n:Int) + 1)=(n:Int) + 1:=by rw [IntKind.wrap_i64];omega
 have hw3:IntKind.i64.wrap ((n:Int) + 1 - (i:Int))=(n:Int) + 1 - (i:Int):=by rw [IntKind.wrap_i64];omega
 have hb1:(0:Int)≤(i:Int) + 1:=by omega
 have hin:i≤n:=by omega
 have htn:((i:Int) + 1).toNat=i + 1:=by omega
 have hb3:(i:Int)≤(n:Int):=by omega
 clear hkk hik hold hROW hG hRl
 go_enter Tryd.func68,Tryd.ntmps68
 go_wp2_with (first
  | (at_builtin;refine Lib.wpList_append_run _ rfl _ _ _ _ rfl _ _ rfl rfl _ _ (hrz _) ?_)
  | (at_builtin;refine wpList_copy_runI _ rfl _ _ 42 42 rfl _ _ rfl rfl (hcpA _ hE1 hE2 _ _) ?_))
 go_region_law_o (refine step_copy_runI rfl _ _ 42 42 rfl (.slice (some ⟨w.heap.size,(i + 1) * 3,none⟩) (n - i) (Gc - (i + 1))) (.slice (some ⟨b,off + i * 3,none⟩) (n - i) (c - i)) (by simp [Act.eval,Act.put]) (by simp [Act.eval,Act.put]) (hcpB _ hF1 hF2 3 (Gc - (i + 1)) (c - i)) ?_)
 go_wp2
 go_ret
 exact ⟨rfl,rfl⟩
end Go.Proofs.YtoonleefemkalaaDoor
namespace Go.Proofs.YtoonleefemkalaaDoor
open Go Go.Proofs.YtoonleefemkalaaDoor.E
def insK (l:List Pk) (i:Nat) (q:Pk):List Pk:=l.take i++q :: l.drop i
def InsR (xs:List Pk) (i:Nat) (q:Pk) (r:PV) (m:List (List PV)):Prop:=
 ∃ pre' post':List D,(∀ x ∈ pre',x.cells.length=3)∧(∀ x ∈ post',x.cells.length=3)∧r=rowV 0 3 pre' (pD (insK xs i q)) post'∧m=[flat (pre'++pD (insK xs i q)++post')]
theorem nref_flat1 (zs:List D):nrefM 0 0 [flat zs]=true:=by
 simp [nrefM,nrefLM]
theorem pD_insK (xs:List Pk) (i:Nat) (q:Pk):pD (insK xs i q)=(pD xs).take i++[q.d]++(pD xs).drop i:=by
 unfold pD insK
 rw [List.map_append,List.map_cons,List.map_take,List.map_drop,List.append_assoc];rfl
theorem insK_len (xs:List Pk) (i:Nat) (q:Pk) (hi:i≤xs.length):(insK xs i q).length=xs.length + 1:=by
 unfold insK
 rw [List.length_append,List.length_cons,List.length_take,List.length_drop];omega
set_option maxRecDepth 100000 in
theorem c68i (xs:List Pk) (q:Pk) (pre post:List D) (i:Nat) (hpre:∀ x ∈ pre,x.cells.length=3) (hpost:∀ x ∈ post,x.cells.length=3) (hi:i < xs.length) (hl:xs.length≤1000000) (S0:Reg) (w0:World):
 GCallP [2] S0 w0 0 Tryd.prog 68 [rowV 0 3 pre (pD xs) post,.d (.int .i64 (i:Int)),.d (.sl [q.d])] [flat (pre++pD xs++post)] (InsR xs i q):=by
 intro w S O m vals _ _ henv hvs hargs hpls
 have hrep:Rep ⟨Tryd.prog,0,S,O,w,m,[],[]⟩ S O m ⟨[],[flat (pre++pD xs++post)]⟩ { tmps:=#[],defers:=[] } w:=⟨henv,rfl,rfl,List.prefix_refl _,fun i p hp=>by cases hp⟩
 obtain ⟨v0,v1,v2,rfl⟩:∃ v0 v1 v2,vals=#[v0,v1,v2]:=by
  match vals,hvs with
  | ⟨[a,b,c]⟩,_=>exact ⟨a,b,c,rfl⟩
 have h0:=hargs 0 _ v0 rfl rfl
 have h1:=hargs 1 _ v1 rfl rfl
 have h2:=hargs 2 _ v2 rfl rfl
 have hv1:v1=.int .i64 (i:Int):=by cases h1 with | d _ _ _ h=>cases h;rfl
 subst hv1
 have hkall:=row_k hpre (pD_k xs) hpost
 have hxl:=pD_len xs
 obtain ⟨ab,cap,hv,hcap,⟨hlim,hcapx⟩,hrow⟩:=row_val h0 rfl rfl
 subst hv
 rcases hrow with ⟨h,_⟩ | ⟨hcz,hne,r,hr,rfl,hroom⟩
 · exact absurd h (pD_ne hi)
 have hmemr:m[0]? = some r:=hr
 obtain ⟨vs0,el,hheap,hsz⟩:=hroom
 obtain ⟨hown,hsz2,hone,hcells⟩:=row_cells (zs:=pre++pD xs++post) (b:=0) (k:=3) hrep rfl hmemr hkall (by decide) hne hheap
 -- the packet
 have h2':Rd w S (.sl [q.d]) v2:=by cases h2 with | d _ _ _ h=>exact h
 obtain ⟨va,vcap,rfl⟩:∃ va vcap,v2=.slice (some va) 1 vcap:=by
  cases h2' with
  | sl _ a c _ _ _ _ hn _ _=>
   cases a with
   | none=>exact absurd (hn rfl) (by simp)
   | some a=>exact ⟨a,c,rfl⟩
 obtain ⟨hvsp,hvO,vv,vel,hvheap⟩:=hpls 2 (by simp) 1 va vcap rfl
 obtain ⟨vb,voff,vsp⟩:=va
 dsimp only at hvsp hvO hvheap
 subst hvsp
 have hvb:vb ≠ r:=by rintro rfl;rw [hown] at hvO;cases hvO
 obtain ⟨news,hnl,hnews,hnrd⟩:=h2'.news (k:=3) (by simp [Pk.d,D.cells])
 have hnl3:news.length=3:=by simpa using hnl
 have hnw:VRow w S 3 news [q.d]:=fun a x j y ha hj=>by
  have hk3:x.cells.length=3:=by
   have:=mG ha
   rw [List.mem_singleton] at this;subst this;rfl
  have ha0:a=0:=by
   have:=(lG ha)
   simpa using this
  subst ha0
  have hj3:j < 3:=by rw [← hk3];exact (lG hj)
  have hg:news[0 * 3 + j]? = some news[0 * 3 + j]:=gE (by omega)
  exact ⟨_,hg,hnrd 0 x j y _ ha hj hg⟩
 have hnone:∀ v ∈ news,v.oneCell'=true:=fun v hv=>by
  obtain ⟨j,hj⟩:=List.getElem?_of_mem hv
  exact (hnews j v hj).2
 have hncell:∀ j v,news[j]? = some v→w.cell? ⟨vb,voff + j,none⟩=some v:=fun j v hj=>by
  have:=(hnews j v hj).1
  rwa [Addr.add_lit] at this
 -- the row as it lies
 have hvr:VRow w S 3 vs0.toList (pre++pD xs++post):=fun a x j y ha hj=>by
  obtain ⟨v,g1,g2⟩:=hcells a x j y ha hj
  exact ⟨v,by simpa using g1,g2⟩
 have hvone:∀ v ∈ vs0.toList,v.oneCell'=true:=fun v hv=>by
  obtain ⟨j,hj⟩:=List.getElem?_of_mem hv
  exact hone j v (by simpa using hj)
 have hvl:vs0.toList.length=vs0.size:=by simp
 have hll:(pre++pD xs++post).length=pre.length + xs.length + post.length:=by rw [List.length_append,List.length_append,hxl]
 rw [hll] at hsz2
 rw [hxl] at hcap hlim
 obtain ⟨cs,hcsd⟩:∃ cs:List Value,cs=(vs0.toList.drop (pre.length * 3)).take (xs.length * 3):=⟨_,rfl⟩
 have hcl:cs.length=xs.length * 3:=by rw [hcsd,List.length_take,List.length_drop,hvl];omega
 have hcs:∀ j v,cs[j]? = some v→w.cell? ⟨r,pre.length * 3 + j,none⟩=some v:=fun j v hj=>by
  rw [cell_of_row w r _ vs0 el _ hheap]
  have hlt:=(lG hj)
  rw [hcl] at hlt
  have hj':((vs0.toList.drop (pre.length * 3)).take (xs.length * 3))[j]? = some v:=hcsd▸hj
  rw [List.getElem?_take_of_lt hlt,List.getElem?_drop] at hj'
  simpa using hj'
 have hcone:∀ v ∈ cs,v.oneCell'=true:=fun v hv=>hvone v (List.mem_of_mem_drop (List.mem_of_mem_take (hcsd▸hv)))
 have hcv:VRow w S 3 cs (pD xs):=by
  rw [hcsd]
  have h5:=(hvr.drop pre.length).take (fun x hx=>hkall x (List.mem_of_mem_drop hx)) xs.length
  rwa [show ((pre++pD xs++post).drop pre.length).take xs.length=pD xs by rw [List.append_assoc,List.drop_left,← hxl,List.take_left]] at h5
 have hxk:∀ x ∈ pD xs,x.cells.length=3:=pD_k xs
 have hinv:VRow w S 3 (cs.take (i * 3)++news++cs.drop (i * 3)) (pD (insK xs i q)):=by
  rw [pD_insK]
  refine VRow.append (VRow.append (hcv.take hxk i) (fun x hx=>hxk x (List.mem_of_mem_take hx)) ?_ hnw) (fun x hx=>?_) ?_ (hcv.drop i)
  · rw [List.length_take,List.length_take,hcl,hxl];omega
  · rcases List.mem_append.1 hx with hx | hx
    · exact hxk x (List.mem_of_mem_take hx)
    · rw [List.mem_singleton] at hx;subst hx;rfl
  · rw [List.length_append,List.length_append,List.length_take,List.length_take,hcl,hxl,hnl3,List.length_singleton];omega
 have hil:(pD (insK xs i q)).length=xs.length + 1:=by rw [pD_len,insK_len xs i q (by omega)]
 have hik:∀ x ∈ pD (insK xs i q),x.cells.length=3:=pD_k _
 have hine:∀ a b:List D,a++pD (insK xs i q)++b ≠ []:=fun a b h=>by
  have:=congrArg List.length h
  simp [hil] at this
 have hlimv:lim=140737488355328:=rfl
 have hnoref:=nref_flat1 (pre++pD xs++post)
 by_cases hc:xs.length + 1≤cap
 · -- there is room
   have hcalls:=ins_shift r (pre.length * 3) xs.length cap i vb voff vcap cs news w hi hc hcapx hvb hcl hnl3 hcs (fun j hj=>by
    rw [cell_of_row w r _ vs0 el _ hheap,Array.getElem?_eq_getElem (by omega)];rfl) (fun j _=>by simp [World.frozen?,hheap]) hncell hcone hnone vel el vv.size vs0.size (by simp [World.shape?,hvheap]) (by simp [World.shape?,hheap]) (by omega) (by simp [World.frozen?,hvheap]) (by simp [World.frozen?,hvheap])
   rw [hxl]
   refine Calls.mono hcalls ?_
   rintro e w' ⟨rfl,rfl⟩
   have hdl:(cs.drop (i * 3)).length=(xs.length - i) * 3:=by rw [List.length_drop,hcl];omega
   have hd1:∀ v ∈ cs.drop (i * 3),v.oneCell'=true:=fun v hv=>hcone v (List.mem_of_mem_drop hv)
   have e1:=setCells_row Tryd.prog (w:=w.drew) (b:=r) (o:=pre.length * 3 + (i + 1) * 3) (l:=cs.drop (i * 3)) (vs:=vs0) (el:=el) hheap (by rw [hdl];omega) hd1
   have hs1:(splice vs0.toList (pre.length * 3 + (i + 1) * 3) (cs.drop (i * 3))).length=vs0.size:=by rw [splice_length _ _ _ (by rw [hdl,hvl];omega),hvl]
   have hh1:(w.drew.setRow r (splice vs0.toList (pre.length * 3 + (i + 1) * 3) (cs.drop (i * 3))).toArray).heap[r]? = some (.cells (splice vs0.toList (pre.length * 3 + (i + 1) * 3) (cs.drop (i * 3))).toArray el (0,0)):=setRow_heap w.drew r vs0 _ el (0,0) hheap
   have e2:=setCells_row Tryd.prog (b:=r) (o:=pre.length * 3 + i * 3) (l:=news) hh1 (by rw [hnl3];simp only [List.size_toArray];rw [hs1];omega) hnone
   rw [e1,e2]
   have e3:splice (splice vs0.toList (pre.length * 3 + (i + 1) * 3) (cs.drop (i * 3))) (pre.length * 3 + i * 3) news=splice vs0.toList (pre.length * 3 + i * 3) (news++cs.drop (i * 3)):=by
    have:=splice_pa vs0.toList (pre.length * 3 + i * 3) news (cs.drop (i * 3)) (by rw [hnl3,hdl,hvl];omega)
    rwa [hnl3,show pre.length * 3 + i * 3 + 3=pre.length * 3 + (i + 1) * 3 by omega] at this
   have e4:splice vs0.toList (pre.length * 3 + i * 3) (news++cs.drop (i * 3))=vs0.toList.take (pre.length * 3)++(cs.take (i * 3)++news++cs.drop (i * 3))++vs0.toList.drop ((pre.length + xs.length + 1) * 3):=by
    unfold splice
    rw [List.length_append,hnl3,hdl,show pre.length * 3 + i * 3 + (3 + (xs.length - i) * 3)=(pre.length + xs.length + 1) * 3 by omega,List.take_add]
    have:cs.take (i * 3)=(vs0.toList.drop (pre.length * 3)).take (i * 3):=by
     rw [hcsd,List.take_take,Nat.min_eq_left (by omega)]
    rw [this]
    simp [List.append_assoc]
   have hpk:∀ x ∈ post.drop 1,x.cells.length=3:=fun x hx=>hpost x (List.mem_of_mem_drop hx)
   have hE1:Ext S w.drew (w.drew.setRow r (splice vs0.toList (pre.length * 3 + (i + 1) * 3) (cs.drop (i * 3))).toArray):=ext_setRow (w:=w.drew) hheap (by simp only [List.size_toArray];exact hs1) (fun o hS=>absurd (henv.sown r o _ _ hS hown) (Nat.not_lt_zero _))
   have hs2:(splice (splice vs0.toList (pre.length * 3 + (i + 1) * 3) (cs.drop (i * 3))) (pre.length * 3 + i * 3) news).length=vs0.size:=by rw [splice_length _ _ _ (by rw [hs1,hnl3];omega),hs1]
   have hE2:Ext S (w.drew.setRow r (splice vs0.toList (pre.length * 3 + (i + 1) * 3) (cs.drop (i * 3))).toArray) ((w.drew.setRow r (splice vs0.toList (pre.length * 3 + (i + 1) * 3) (cs.drop (i * 3))).toArray).setRow r (splice (splice vs0.toList (pre.length * 3 + (i + 1) * 3) (cs.drop (i * 3))) (pre.length * 3 + i * 3) news).toArray):=ext_setRow hh1 (by simp only [List.size_toArray];rw [hs2,hs1]) (fun o hS=>absurd (henv.sown r o _ _ hS hown) (Nat.not_lt_zero _))
   have hE:=(ext_drew S w).trans (hE1.trans hE2 (fun _ _ h=>h)) (fun _ _ h=>h)
   have hfin:=row_end (k:=3) (pre:=pre) (xs:=pD (insK xs i q)) (post:=post.drop 1) (r':=r) (cap':=cap) (el':=el) (vs':=splice (splice vs0.toList (pre.length * 3 + (i + 1) * 3) (cs.drop (i * 3))) (pre.length * 3 + i * 3) news) henv hnoref (row_k hpre hik hpk) (hine _ _) hE (.inr hown)
    (fun q' _ hq'=>by rw [setRow_other _ _ _ _ hq',setRow_other _ _ _ _ hq'];rfl)
    (setRow_heap _ r _ _ el (0,0) hh1) (by rw [hs2];exact hsz) (by
     rw [hs2]
     simp only [List.length_append,List.length_drop,hil]
     by_cases hp0:post.length=0
     · rw [hp0];omega
     · omega) (by rw [hil];exact hc) hcapx (by rw [hil];omega) (fun v hv=>by
     rw [e3,e4] at hv
     simp only [List.mem_append] at hv
     rcases hv with (hv | (hv | hv) | hv) | hv
     · exact hvone v (List.mem_of_mem_take hv)
     · exact hcone v (List.mem_of_mem_take hv)
     · exact hnone v hv
     · exact hcone v (List.mem_of_mem_drop hv)
     · exact hvone v (List.mem_of_mem_drop hv)) (by
     refine VRow.ext (w:=w) ?_ hE
     rw [e3,e4]
     have hA:VRow w S 3 (vs0.toList.take (pre.length * 3)) pre:=by
      have h6:=hvr.take hkall pre.length
      rwa [show (pre++pD xs++post).take pre.length=pre by rw [List.append_assoc,List.take_left]] at h6
     have hC:VRow w S 3 (vs0.toList.drop ((pre.length + xs.length + 1) * 3)) (post.drop 1):=by
      have h6:=hvr.drop (pre.length + xs.length + 1)
      rwa [show (pre++pD xs++post).drop (pre.length + xs.length + 1)=post.drop 1 by
       rw [show pre.length + xs.length + 1=(pre++pD xs).length + 1 by rw [List.length_append,hxl],List.drop_append]
       simp] at h6
     refine VRow.append (VRow.append hA hpre ?_ hinv) (fun x hx=>?_) ?_ hC
     · rw [List.length_take,hvl];omega
     · rcases List.mem_append.1 hx with hx | hx
       · exact hpre x hx
       · exact hik x hx
     · rw [List.length_append,List.length_append,List.length_append,List.length_append,List.length_take,List.length_take,hnl3,hdl,hcl,hvl,hil];omega)
   rw [hil] at hfin
   obtain ⟨v,r1,mem',S',O',m',g1,⟨g2,g3⟩,g4⟩:=hfin
   refine ⟨v,r1,mem',S',O',m',g1,⟨pre,post.drop 1,hpre,hpk,?_,g3⟩,g4⟩
   rw [g2];unfold rowV;rw [hil]
 · -- there is none
   have hcalls:=ins_grow r (pre.length * 3) xs.length cap i vb voff vcap cs news w hi hcap (by omega) (by omega) hcl hnl3 hcs hncell hcone hnone
   rw [hxl]
   refine Calls.mono hcalls ?_
   rintro e w' ⟨rfl,rfl⟩
   have hge:=grownCap_ge w (xs.length + 1) cap 28
   have hgx:grownCap w (xs.length + 1) cap 28≤9223372036854775807:=grownCap_le_maxLen w (xs.length + 1) cap 28 (by show _≤9223372036854775807;omega)
   generalize grownCap w (xs.length + 1) cap 28=G at hge hgx ⊢
   have hdl:(cs.drop (i * 3)).length=(xs.length - i) * 3:=by rw [List.length_drop,hcl];omega
   have htl:(cs.take (i * 3)).length=i * 3:=by rw [List.length_take,hcl];omega
   have hd1:∀ v ∈ cs.drop (i * 3),v.oneCell'=true:=fun v hv=>hcone v (List.mem_of_mem_drop hv)
   have hz3:(Value.agg #[.int .i64 0,.int .i64 0,.string ⟨#[]⟩]).cells.size=3:=rfl
   have hz1:(Value.agg #[.int .i64 0,.int .i64 0,.string ⟨#[]⟩]).cells.all (·.oneCell')=true:=by simp [Value.cells,Value.oneCell']
   generalize (Value.agg #[.int .i64 0,.int .i64 0,.string ⟨#[]⟩]).cells=zz at hz3 hz1 ⊢
   obtain ⟨ROW,hR⟩:∃ ROW:Array Value,ROW=(cs.take (i * 3)).toArray++Builtin.zeroCells zz (xs.length + 1 - i)++Builtin.zeroCells zz (G - (xs.length + 1)):=⟨_,rfl⟩
   rw [← hR]
   have hRs:ROW.size=G * 3:=by
    rw [hR]
    simp only [Array.size_append,List.size_toArray,size_zeroCells,hz3,htl]
    omega
   have hRl:ROW.toList.length=G * 3:=by rw [← hRs];simp
   have hR1:∀ v ∈ ROW.toList,v.oneCell'=true:=fun v hv=>by
    have hv':v ∈ ROW:=by simpa using hv
    rw [hR,Array.mem_append,Array.mem_append] at hv'
    rcases hv' with (hv' | hv') | hv'
    · exact hcone v (List.mem_of_mem_take (by simpa using hv'))
    · exact zeroCells_one hz1 v hv'
    · exact zeroCells_one hz1 v hv'
   have hRt:ROW.toList.take (i * 3)=cs.take (i * 3):=by
    rw [hR]
    simp only [Array.toList_append,List.append_assoc]
    rw [List.take_append_of_le_length (by rw [htl];omega),List.take_of_length_le (by rw [htl];omega)]
   have hh0:(w.alloc (.cells ROW 28)).drew.heap[w.heap.size]? = some (.cells ROW 28 (0,0)):=heap_alloc_new' w _
   have e1:=setCells_row Tryd.prog (b:=w.heap.size) (o:=i * 3) (l:=news) hh0 (by rw [hnl3,hRs];omega) hnone
   have hs1:(splice ROW.toList (i * 3) news).length=G * 3:=by rw [splice_length _ _ _ (by rw [hnl3,hRl];omega),hRl]
   have hh1:(((w.alloc (.cells ROW 28)).drew.setRow w.heap.size (splice ROW.toList (i * 3) news).toArray).drew).heap[w.heap.size]? = some (.cells (splice ROW.toList (i * 3) news).toArray 28 (0,0)):=setRow_heap _ _ _ _ 28 (0,0) hh0
   have e2:=setCells_row Tryd.prog (b:=w.heap.size) (o:=(i + 1) * 3) (l:=cs.drop (i * 3)) hh1 (by rw [hdl];simp only [List.size_toArray];rw [hs1];omega) hd1
   rw [e1,e2]
   have e3:splice (splice ROW.toList (i * 3) news) ((i + 1) * 3) (cs.drop (i * 3))=splice ROW.toList (i * 3) (news++cs.drop (i * 3)):=by
    have:=splice_ap ROW.toList (i * 3) news (cs.drop (i * 3)) (by rw [hnl3,hdl,hRl];omega)
    rwa [hnl3,show i * 3 + 3=(i + 1) * 3 by omega] at this
   have e4:splice ROW.toList (i * 3) (news++cs.drop (i * 3))=(cs.take (i * 3)++news++cs.drop (i * 3))++ROW.toList.drop (i * 3 + (news++cs.drop (i * 3)).length):=by
    unfold splice
    rw [hRt]
    simp [List.append_assoc]
   have hnS:∀ o,¬ S w.heap.size o:=fun o hS=>absurd (henv.slt _ _ hS) (Nat.lt_irrefl _)
   have hE0:Ext S w (w.alloc (.cells ROW 28)).drew:=(ext_alloc S w _ henv.slt).trans (ext_drew S _) (fun _ _ h=>h)
   have hE1:Ext S (w.alloc (.cells ROW 28)).drew ((w.alloc (.cells ROW 28)).drew.setRow w.heap.size (splice ROW.toList (i * 3) news).toArray):=ext_setRow hh0 (by simp only [List.size_toArray];rw [hs1,hRs]) (fun o hS=>absurd hS (hnS o))
   have hs2:(splice (splice ROW.toList (i * 3) news) ((i + 1) * 3) (cs.drop (i * 3))).length=G * 3:=by rw [splice_length _ _ _ (by rw [hs1,hdl];omega),hs1]
   have hE2:Ext S (((w.alloc (.cells ROW 28)).drew.setRow w.heap.size (splice ROW.toList (i * 3) news).toArray).drew) ((((w.alloc (.cells ROW 28)).drew.setRow w.heap.size (splice ROW.toList (i * 3) news).toArray).drew).setRow w.heap.size (splice (splice ROW.toList (i * 3) news) ((i + 1) * 3) (cs.drop (i * 3))).toArray):=ext_setRow hh1 (by simp only [List.size_toArray];rw [hs2,hs1]) (fun o hS=>absurd hS (hnS o))
   have hE:=hE0.trans ((hE1.trans (ext_drew S _) (fun _ _ h=>h)).trans hE2 (fun _ _ h=>h)) (fun _ _ h=>h)
   have hfin:=row_end (k:=3) (pre:=[]) (xs:=pD (insK xs i q)) (post:=[]) (r':=w.heap.size) (cap':=G) (el':=28) (vs':=splice (splice ROW.toList (i * 3) news) ((i + 1) * 3) (cs.drop (i * 3))) henv hnoref (row_k (by simp) hik (by simp)) (hine _ _) hE (.inl rfl)
    (fun q' hq0 hq'=>by
     rw [setRow_other _ _ _ _ hq']
     show ((w.alloc (.cells ROW 28)).drew.setRow w.heap.size (splice ROW.toList (i * 3) news).toArray).heap[q']? = _
     rw [setRow_other _ _ _ _ hq']
     exact heap_alloc_old' w _ q' hq0)
    (setRow_heap _ _ _ _ 28 (0,0) hh1) (by rw [hs2];simp) (by
     rw [hs2]
     simp only [List.nil_append,List.append_nil,hil]
     omega) (by rw [hil];exact hge) hgx (by rw [hil];omega) (fun v hv=>by
     rw [e3,e4] at hv
     simp only [List.mem_append] at hv
     rcases hv with ((hv | hv) | hv) | hv
     · exact hcone v (List.mem_of_mem_take hv)
     · exact hnone v hv
     · exact hcone v (List.mem_of_mem_drop hv)
     · exact hR1 v (List.mem_of_mem_drop hv)) (by
     refine VRow.ext (w:=w) ?_ hE
     rw [e3,e4,List.nil_append,List.append_nil]
     exact hinv.more _)
   rw [hil,List.length_nil,Nat.zero_mul] at hfin
   obtain ⟨v,r1,mem',S',O',m',g1,⟨g2,g3⟩,g4⟩:=hfin
   refine ⟨v,r1,mem',S',O',m',g1,⟨[],[],by simp,by simp,?_,g3⟩,g4⟩
   rw [g2];unfold rowV;rw [hil]
end Go.Proofs.YtoonleefemkalaaDoor
