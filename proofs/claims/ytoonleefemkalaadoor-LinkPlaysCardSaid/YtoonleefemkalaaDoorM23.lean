import Derived.Test.YtoonleefemkalaaDoorM22
import Derived.Test.YtoonleefemkalaaDoorM16
/- Contracts of functions. Conditions: none. -/
set_option linter.unusedSimpArgs false
set_option linter.unusedVariables false
set_option maxRecDepth 20000
namespace Go.Proofs.YtoonleefemkalaaDoor
open Go Go.Proofs.YtoonleefemkalaaDoor.E
section
theorem ChM_refs8 (c:Ch) (p:Pp):(ChM c p++[[PV.ref 0 0]]).all (PV.refsBs 8)=true:=by
 rw [show (ChM c p++[[PV.ref 0 0]]).all (PV.refsBs 8)=(PV.refsBs 8 (ChA c p 1 2 3 4 5 6) && (ChR c p++[[PV.ref 0 0]]).all (PV.refsBs 8)) from rfl,List.all_append,ChR_refs];rfl
theorem ChM_self9 (c:Ch) (p:Pp):MSub 9 (ChM c p++[[.ref 0 0]]++[[.ref 0 0]]) (ChM c p++[[.ref 0 0]]++[[.ref 0 0]]):=by
 have h:CSub 9 (ChA c p 1 2 3 4 5 6) (ChA c p 1 2 3 4 5 6):=by
  unfold ChA
  repeat' first | exact .nil | refine .cons (.inl rfl) rfl ?_
 exact .cons h (.cons (CSub_flat _ _) (.cons (CSub_flat _ _) (.cons (CSub_flat _ _) (.cons (CSub_flat _ _) (.cons (CSub_flat _ _) (.cons (CSub_flat _ _) (.cons (.cons (.inl rfl) rfl .nil) (.cons (.cons (.inl rfl) rfl .nil) .nil))))))))
theorem c71y (c:Ch) (p:Pp) (h:c.ear=[]):Gm Tryd.prog 71 [.undef,.ref 8 0] (ChM c p++[[.ref 0 0]]++[[.ref 0 0]]) (.tup []) (ChM c p++[[.ref 0 0]]++[[.ref 0 0]]):=by
 refine gmB 9 Tryd.func71 Tryd.ntmps71 Tryd.results71 (fun S0 O0 w0 m0 hm0=>?_)
 repeat' first | refine s_ ?_ | fail
 refine gRn 1 ?_
 repeat' first | refine s_ ?_ | fail
 refine Z9 ?_
 iterate 11 refine ov (hc:=?_)
 refine oqw (hs:=rfl) (hj:=rfl) (h:=fun _=>rfl) (p:=.d (.ptr (.agg [.int .i64 0,.int .i64 0,.str ByteArray.empty]))) (hq:=fun rest hg=>absurd hg (by simp [isT,h,pD])) (hc:=?_)
 iterate 8 refine ov (hc:=?_)
 refine Z7 ?_
 repeat' first | refine s_ ?_ | fail
 refine cf (by exact rfl) ?_ (by simp [h,pD])
 repeat' first | refine s_ ?_ | fail
 exact enm (mem':=ChM c p++[[PV.ref 0 0]]++[[PV.ref 0 0]]) (by exact rfl) rfl (ChM_self9 c p)
variable {Post:Exit→Act→World→Prop}
theorem rw_range {n:Nat} {S0:Reg} {O0:Owns} {w0:World} {m0:List Nat} {sl:List (Nat×PV)} {mem mem2:List (List PV)} {t t1 f b0 o0 b1 o1:Nat} {r:PV} {ps:Array Tmp} {assign body:Code} (hg:sl.lookup t=some (.fn (.func f) [] [.ref b0 o0])) (hk:sl.lookup t1=some (.ref b1 o1)) (hc:Gm Tryd.prog f [.undef,.ref b0 o0] mem r mem2)
 (next:∀ (S1:Reg) (O1:Owns) (w1:World) (m1:List Nat) (D:Nat) (a:Act),Env S0 O0 w0 S1 O1 m1 mem2 w1→w0.heap.size≤D→D < w1.heap.size→w1.heap[D]? = some (.deferred (some []))→O1 D=none→(∀ i,¬ S1 D i)→At ⟨Tryd.prog,n,S1,O1,w1,m0,[],markD D⟩ ⟨[(t1,.ref b1 o1)],mem2⟩ a w1→Post .normal a w1):
 RW ⟨Tryd.prog,n,S0,O0,w0,m0,[],[]⟩ (.rangeFunc (.tmp t) ps assign body) Post ⟨sl,mem⟩:=by
 rintro a w ⟨S,O,m,hr⟩
 obtain ⟨⟨fn,hf,hb,hn⟩,hcall⟩:=hc
 refine range_call rfl m.length (fun mm=>mm=mem2) hr hg hf hb hn hr.defers (fun fnid D vc hvc hcp l W henv hl hO hS=>?_) (fun S' O' m' mem' W3 D hT henv1 henv2 hpm hD1 hD2 hO hS=>?_)
 · have hv0:∃ v,vc[0]? = some v:=⟨_,Array.getElem?_eq_getElem (by rw [hvc];exact Nat.zero_lt_one)⟩
   obtain ⟨v,hv⟩:=hv0
   obtain ⟨l',hrp⟩:=hcp w (fun _ _=>rfl) (Ext.refl _ _) 0 (.ref b0 o0) v rfl hv
   have hvv:∃ r,m[b0]? = some r∧v=.pointer (some ⟨r,o0,none⟩):=by
    cases hrp with
    | ref _ _ _ r h=>exact ⟨r,h,rfl⟩
   obtain ⟨rr,hm,rfl⟩:=hvv
   have hsz:(#[Value.func (.yield l) #[] #[]]++vc).size=2:=by rw [Array.size_append,hvc];rfl
   have hvc':vc=#[.pointer (some ⟨rr,o0,none⟩)]:=by
    obtain ⟨lv⟩:=vc
    rcases lv with _ | ⟨y,_ | ⟨z,lv⟩⟩
    · cases hvc
    · rw [Option.some.inj (show some y=some (Value.pointer (some ⟨rr,o0,none⟩)) from hv)]
    · simp at hvc
   subst hvc'
   refine (hcall W S O m _ henv hsz (fun i p v hp hv=>?_)).mono ?_
   · match i,hp,hv with
     | 0,hp,hv=>injection hp with hp;subst hp;exact .undef _ _
     | 1,hp,hv=>
      injection hp with hp;subst hp
      have hv':some (Value.pointer (some ⟨rr,o0,none⟩))=some v:=hv
      injection hv' with hv'
      subst hv'
      exact .ref _ _ _ _ hm
     | (i + 2),hp,hv=>simp at hp
   · rintro e W2 ⟨v,q,mem',S',O',m',rfl,⟨_,rfl⟩,henv',hpre,_⟩
     have hlt:l < W.heap.size:=(Array.getElem?_eq_some_iff.1 hl).1
     exact ⟨v,S',O',m',mem',rfl,rfl,henv',by rw [List.take_length];exact hpre,(henv'.apart hlt hS hO).2.2.trans hl⟩
 · subst hT
   rw [List.take_length] at hpm
   refine next S' O' W3 m' D _ henv1 (Nat.le_trans hr.env.ext.size hD2) (Array.getElem?_eq_some_iff.1 hD1).1 hD1 hO hS ⟨S',O',m',henv1.rebase,rfl,hr.size,hr.pre.trans hpm,fun i p hp=>?_⟩
   have hi:i=t1∧p=.ref b1 o1:=by
    rw [show (GS.mk [(t1,PV.ref b1 o1)] mem').get i=[(t1,PV.ref b1 o1)].lookup i from rfl,List.lookup_cons] at hp
    cases hq:i == t1 with
    | true=>rw [hq] at hp;injection hp with hp;exact ⟨by simpa using hq,hp.symm⟩
    | false=>rw [hq] at hp;cases hp
   obtain ⟨rfl,rfl⟩:=hi
   have h1:=hr.slots i _ hk
   show RP W3 S' O' m' [i,0] (.ref b1 o1) (a.tmps.getD i undef)
   generalize a.tmps.getD i undef=v at h1
   cases h1 with
   | ref _ _ _ r h=>
    refine .ref _ _ _ r ?_
    obtain ⟨x,rfl⟩:=hpm
    rw [List.getElem?_append_left (lG h)]
    exact h
theorem rwF {K:Ctx} {x y:Code} {c:Operand} {s:GS} {b:Bool} (hc:s.ev c=.d (.bool b)) (hb:b=false) (h:RW K y Post s):RW K (.cond c x y) Post s:=by
 subst hb
 exact rw_cond false hc (by simpa using h)
theorem rwT {K:Ctx} {x y:Code} {c:Operand} {s:GS} {b:Bool} (hc:s.ev c=.d (.bool b)) (hb:b=true) (h:RW K x Post s):RW K (.cond c x y) Post s:=by
 subst hb
 exact rw_cond true hc (by simpa using h)
noncomputable def r13:Code:=match Tryd.f60.body with
 | some (.seq _ (.seq _ (.seq _ (.seq _ c))))=>c
 | _=>.skip
theorem ChM_nref0 (sel:List Nat) (k:Nat):∀ (ms:List (List PV)),nrefLM [] sel k ms=true:=fun ms=>nrefLM_ex [] sel ms k (List.all_eq_true.2 fun _ _=>rfl)
def recZ (c:Ch) (x:ByteArray):Ch:=sendB (delC c (deP x)) ⟨2,(delC c (deP x)).exp,ByteArray.empty⟩
theorem c60z (c:Ch) (x:ByteArray) (h0:deE x=0) (h1:(deP x).kd=1) (h2:(deP x).nu=c.exp) (h3:c.exp < c.nxt) (he:c.ear=[]) (hc:c.Few):Mt 60 [.ref 0 0,.d (.str x)] c (.tup []) (recZ c x):=by
 intro p hp
 have q63:=c63 x 1 h0
 have q64:=c64 c (deP x) hc
 unfold Pk.d at q64
 refine ⟨⟨_,Tryd.func60,rfl,rfl⟩,?_⟩
 refine gcall_marks 1 95 [] [(0,.ref 0 0),(1,.d (.str x))] 7 Tryd.func60 rfl Tryd.ntmps60 (oR rfl) Tryd.results60 rfl rfl (fun S0 O0 w0 m0 hm0=>?_)
 have hr:RW ⟨Tryd.prog,95,S0,O0,w0,m0,[],[]⟩ (Tryd.f60.body.getD .skip) (EndM ⟨Tryd.prog,95,S0,O0,w0,m0,[],[]⟩ [] 7 (fun q m=>q=.tup []∧∃ p':Pp,p'.Ok∧m=ChM (recZ c x) p')) ⟨[(0,.ref 0 0),(1,.d (.str x))],ChM c p⟩:=by
  refine Z24 ?_
  repeat' first | refine s_ ?_ | fail
  refine toL ⟨rfl,?_⟩
  refine Z24 ?_
  repeat' first | refine s_ ?_ | refine c_ q63 ?_ | fail
  refine toL ⟨rfl,?_⟩
  refine Z24 ?_
  refine fz true (by exact rfl) ?_ (by rw [hm0];decide) (ChM_refs8 c p)
  repeat' first | refine s_ ?_ | fail
  refine cf (by exact rfl) ?_ (by simp [h1])
  repeat' first | refine s_ ?_ | fail
  refine toL ⟨rfl,?_⟩
  refine rw_seqr (rw_block ?_)
  refine Z24 ?_
  refine kp [(4,.d (.ptr (deP x).d)),(2,.ref 7 0)] ⟨rfl,rfl,trivial⟩ ?_
  unfold Pk.d
  refine Z9 ?_
  iterate 17 refine ov (hc:=?_)
  refine Z7 ?_
  refine toL ⟨rfl,?_⟩
  refine rwF (by exact rfl) (by simp [h2];omega) ?_
  refine Z24 ?_;refine Z10 ?_;refine Z9 ?_
  iterate 8 refine ov (hc:=?_)
  refine Z7 ?_
  refine toL ⟨rfl,?_⟩
  refine rwT (by exact rfl) (by simp [h2]) ?_
  refine Z24 ?_;refine Z10 ?_
  repeat' first | refine s_ ?_ | fail
  refine (show GF _ _ _ _ ⟨_,ChM c p++[[.ref 0 0]]⟩ from ?_)
  refine cj (by exact rfl) q64 hp (fun p' hp'=>?_)
  repeat' first | refine s_ ?_ | fail
  refine toL ⟨rfl,?_⟩
  refine Z24 ?_
  refine kp [(2,.ref 7 0)] ⟨rfl,trivial⟩ ?_
  repeat' first | refine s_ ?_ | fail
  refine gJ (jn:=7) [0,1,2,3,4,5,6] (by exact rfl) ((c65 (delC c (deP x)) p').j 7) rfl (by decide) (fun b hb=>?_) ?_ rfl ?_ (fun b hb=>by cases hb) (ChM_nref0 _ _ _) ?_
  · have:b < 7:=by
     have h:∀ b ∈ [0,1,2,3,4,5,6],b < 7:=by decide
     exact h b hb
    rw [List.length_append]
    have h7:(ChM (delC c (deP x)) p').length=7:=rfl
    omega
  · rw [ChM_rens];rfl
  · exact ChM_refs (delC c (deP x)) p'
  · rintro q m ⟨rfl,rfl⟩ _
    have h1:=setAll_ChM (delC c (deP x)) (delC c (deP x)) p' p' [[.ref 0 0]] 8
    rw [show ((ChM (delC c (deP x)) p').drop 7).map (PV.rens (renN [0,1,2,3,4,5,6] 8))=[] from rfl,List.append_nil] at h1
    have h2:stJ 7 [0,1,2,3,4,5,6] [(44,.ref 0 0),(2,.ref 7 0)] (ChM (delC c (deP x)) p'++[[.ref 0 0]]) 45 (.fn (.func 71) [] [.ref 7 0]) (ChM (delC c (deP x)) p'++[[.ref 0 0]])=⟨[(45,.fn (.func 71) [] [.ref 8 0]),(44,.ref 0 0),(2,.ref 7 0)],ChM (delC c (deP x)) p'++[[.ref 0 0]]++[[.ref 0 0]]⟩:=by
     refine Z31 ?_
     show setAll (ChM (delC c (deP x)) p'++[[.ref 0 0]]) [0,1,2,3,4,5,6] (((ChM (delC c (deP x)) p').take 7).map (PV.rens (renN [0,1,2,3,4,5,6] 8)))++[[.ref 0 0]]=_
     rw [h1]
    rw [h2]
    repeat' first | refine s_ ?_ | fail
    refine toL ⟨rfl,?_⟩
    refine rw_block ?_
    refine rw_range (t1:=2) rfl rfl (c71y (delC c (deP x)) p' he) (fun S1 O1 w1 m1 D a henv hD1 hD2 hD3 hO hS hat=>?_)
    have q58:=c58b (delC c (deP x)) ⟨2,(delC c (deP x)).exp,ByteArray.empty⟩
    unfold Pk.d at q58
    have hG:GF ⟨Tryd.prog,95,S1,O1,w1,m0,[],markD D⟩ [] (.code r13) (E.Fin Tryd.prog [] 7 (fun q m=>q=.tup []∧∃ p':Pp,p'.Ok∧m=ChM (recZ c x) p')) ⟨[(2,.ref 7 0)],ChM (delC c (deP x)) p'++([[.ref 0 0]]++[[.ref 0 0]])⟩:=by
     refine tabC 8 94 [(0,86,.ref 0 0),(1,87,.ref 0 0),(2,88,.ref 0 9),(3,89,.ref 0 0),(4,90,.ref 0 0),(5,91,.ref 0 5),(6,92,.d (.int .i64 (delC c (deP x)).exp)),(7,93,.d (.agg [.int .i64 2,.int .i64 (delC c (deP x)).exp,.str ByteArray.empty]))] [0,1,2,3,4,5,6,7] (by exact rfl) (by exact rfl) (fun rest=>rfl) q58 hp' (fun a=>?_) (fun p2 hp2=>?_)
     · refine ⟨?_,?_,?_,?_,?_,?_,?_,?_,trivial⟩
       all_goals exact ta_
     · exact enj (mem':=ChM (recZ c x) p2) (by exact rfl) ⟨rfl,p2,hp2,rfl⟩ (ChM_sub (recZ c x) p2 _)
    exact wp_mono (hG a w1 hat) (fun e a' w' ⟨s',hfin,hat'⟩=>.inr ⟨D,S1,O1,w1,m1,_,s',hfin,hat',henv,hD1,hD2,hD3,hO,hS⟩)
 exact hr
end
section
theorem c45z (c:Ch) (k at_:Int) (i:Nat) {x:ByteArray} (hx:c.tos[i]? = some x) (hc:c.Few) (h0:deE x=0) (h1:(deP x).kd=1) (h2:(deP x).nu=c.exp) (h3:c.exp < c.nxt) (he:c.ear=[]):Mt 45 [.ref 0 0,.d (acD k false (i:Int) at_)] c (.d (.int .i64 0)) (recZ { c with tos:=c.tos.eraseIdx i } x):=by
 intro p hp
 have hi:i < c.tos.length:=(lG hx)
 have q44:=c44tf c k (i:Int) at_
 have q46:=c46t c k at_ i hi hc.tos
 have hf2:Ch.Few { c with tos:=c.tos.eraseIdx i }:={ hc with tos:=by show (c.tos.eraseIdx i).length≤_;rw [List.length_eraseIdx];have:=hc.tos;split<;>omega }
 have q60:=c60z { c with tos:=c.tos.eraseIdx i } x h0 h1 h2 h3 he hf2
 unfold acD at q44 q46 ⊢
 refine gjB 1 7 Tryd.func45 Tryd.ntmps45 Tryd.results45 (fun S0 O0 w0 m0 hm0=>?_)
 iterate 4 refine s_ ?_
 refine fz true (by exact rfl) ?_ (by rw [hm0];decide) (ChM_refs c p)
 repeat' first | refine s_ ?_ | fail
 refine Z20 ?_;refine Z14 ?_;refine Z9 ?_;refine Z37 ?_;refine Z30 ?_;refine Z37 ?_;refine Z37 ?_;refine Z19 ?_
 refine oqw (hs:=rfl) (hj:=rfl) (h:=fun _=>rfl) (p:=.d (.str x)) (hq:=fun rest _ ht=>Q_rowLeaf (pre:=p.t1) (xs:=sD c.tos) (post:=p.t2) (i:=i) (f:=0) (k:=1) rfl rfl (by rw [rlo_ne (sD_ne hi)];rfl) (sD_get hx) rfl (row_k hp.t1 (sD_k _) hp.t2) u9 rfl rfl ht) (hc:=?_)
 refine Z6 ?_;refine Z7 ?_
 rw [List.append_nil]
 refine Z17 ?_
 refine kp [(5,.d (.str x)),(0,.ref 0 0),(3,.d (.ptr (.agg [.int .i64 k,.bool false,.int .i64 (i:Int),.int .i64 at_]))),(4,.d (.int .i64 0))] ⟨rfl,rfl,rfl,rfl,trivial⟩ ?_
 repeat' first | refine s_ ?_ | fail
 refine Z14 ?_
 refine cj (by exact rfl) q46 hp (fun p2 hp2=>?_)
 repeat' first | refine s_ ?_ | fail
 refine Z1 ?_
 repeat' first | refine s_ ?_ | fail
 refine cj (by exact rfl) q60 hp2 (fun p3 hp3=>?_)
 repeat' first | refine s_ ?_ | fail
 exact enj (mem':=ChM (recZ { c with tos:=c.tos.eraseIdx i } x) p3) (by exact rfl) ⟨rfl,p3,hp3,rfl⟩ (ChM_sub (recZ { c with tos:=c.tos.eraseIdx i } x) p3 [])
end
section
theorem frz_nref (n:Nat) (F:Nat→PV) (H:Nat→Nat→Nat→PV) (X:PV):∀ p:PV,PV.nref n p=true→PV.frz n F H X p=p:=by
 have key:∀ {b:Nat},(!(b == n))=true→¬ b=n:=fun {b} h e=>by subst e;simp at h
 intro p
 induction p using PV.rec (motive_2:=fun ps=>PV.nrefs n ps=true→PV.frzs n F H X ps=ps) with
 | d x=>exact fun _=>rfl
 | nils=>exact fun _=>rfl
 | osl k xs=>exact fun _=>rfl
 | ref b off=>intro h;exact if_neg (key h)
 | rsl b off c k=>intro h;exact if_neg (key h)
 | mref b=>intro h;exact if_neg (key h)
 | ifr t b off=>intro h;exact if_neg (key h)
 | mapc kvs=>exact fun _=>rfl
 | fn f a c iha ihc=>
  intro h
  have h':(PV.nrefs n a && PV.nrefs n c)=true:=h
  rw [Bool.and_eq_true] at h'
  show PV.fn f (PV.frzs n F H X a) (PV.frzs n F H X c)=_
  rw [iha h'.1,ihc h'.2]
 | agg cs ih=>intro h;show PV.agg (PV.frzs n F H X cs)=_;rw [ih h]
 | tup cs ih=>intro h;show PV.tup (PV.frzs n F H X cs)=_;rw [ih h]
 | when b p ih=>intro h;show PV.when b (PV.frz n F H X p)=_;rw [ih h]
 | undef=>exact fun _=>rfl
 | nil=>exact rfl
 | cons p ps ih1 ih2=>
  rename_i h
  have h':(PV.nref n p && PV.nrefs n ps)=true:=h
  rw [Bool.and_eq_true] at h'
  show PV.frz n F H X p :: PV.frzs n F H X ps=_
  rw [ih1 h'.1,ih2 h'.2]
theorem frzs_nref (n:Nat) (F:Nat→PV) (H:Nat→Nat→Nat→PV) (X:PV):∀ ps:List PV,PV.nrefs n ps=true→PV.frzs n F H X ps=ps
 | [],_=>rfl
 | p :: ps,h=>by
  have h':(PV.nref n p && PV.nrefs n ps)=true:=h
  rw [Bool.and_eq_true] at h'
  show PV.frz n F H X p :: PV.frzs n F H X ps=_
  rw [frz_nref n F H X p h'.1,frzs_nref n F H X ps h'.2]
variable {n:Nat}
theorem frz_slots {F:Nat→PV} {H:Nat→Nat→Nat→PV} {X:PV} {L:List Nat} (hn:n ∈ L):∀ {sl:List (Nat×PV)},sl.all (fun x=>nrefL L x.2)=true→(sl.map fun x=>(x.1,PV.frz n F H X x.2))=sl
 | [],_=>rfl
 | x :: sl,h=>by
  rw [List.all_cons,Bool.and_eq_true] at h
  rw [List.map_cons,frz_slots hn h.2,frz_nref n F H X x.2 (nrefL_of h.1 hn)]
theorem frz_ex {F:Nat→PV} {H:Nat→Nat→Nat→PV} {X:PV} {L:List Nat} (hn:n ∈ L):∀ {ms:List (List PV)},exB L ms=true→ms.map (PV.frzs n F H X)=ms
 | [],_=>rfl
 | x :: ms,h=>by
  have h':((L.all fun b=>PV.nrefs b x) && exB L ms)=true:=h
  rw [Bool.and_eq_true] at h'
  rw [List.map_cons,frz_ex hn h'.2,frzs_nref n F H X x (List.all_eq_true.1 h'.1 n hn)]
theorem frz_flat (n:Nat) (F:Nat→PV) (H:Nat→Nat→Nat→PV) (X:PV) (xs:List D):PV.frzs n F H X (flat xs)=flat xs:=frzs_nref n F H X _ (nrefs_flat n xs)
theorem fl_nil:∀ c ∈ ([]:List (List PV)),∃ ds:List D,c=flat ds:=fun c h=>by cases h
theorem fl_cons (ds:List D) {rs:List (List PV)} (h:∀ c ∈ rs,∃ ds:List D,c=flat ds):∀ c ∈ flat ds :: rs,∃ ds:List D,c=flat ds:=fun c hc=>by
 rcases List.mem_cons.1 hc with rfl | hc
 · exact ⟨ds,rfl⟩
 · exact h c hc
def chD (c:Ch):List PV:=[.d (.int .i64 c.win),.d (.int .i64 c.base),.d (.int .i64 c.nxt),.d (strs c.una),.d (strs c.wai),.d (.int .i64 c.exp),.d (.sl (pD c.ear)),.d (strs c.del),.d (strs c.tos),.d (strs c.bak)]
variable {p:Pp}
theorem ok_u (h:p.Ok) (l:List ByteArray):∀ x ∈ p.u1++sD l++p.u2,x.cells.length=1:=row_k h.u1 (sD_k _) h.u2
theorem ok_w (h:p.Ok) (l:List ByteArray):∀ x ∈ p.w1++sD l++p.w2,x.cells.length=1:=row_k h.w1 (sD_k _) h.w2
theorem ok_d (h:p.Ok) (l:List ByteArray):∀ x ∈ p.d1++sD l++p.d2,x.cells.length=1:=row_k h.d1 (sD_k _) h.d2
theorem ok_t (h:p.Ok) (l:List ByteArray):∀ x ∈ p.t1++sD l++p.t2,x.cells.length=1:=row_k h.t1 (sD_k _) h.t2
theorem ok_b (h:p.Ok) (l:List ByteArray):∀ x ∈ p.b1++sD l++p.b2,x.cells.length=1:=row_k h.b1 (sD_k _) h.b2
theorem ok_e (h:p.Ok) (l:List Pk):∀ x ∈ p.e1++pD l++p.e2,x.cells.length=3:=row_k h.e1 (pD_k _) h.e2
theorem nrefLM_app (L sel:List Nat):∀ (a b:List (List PV)) (k:Nat),nrefLM L sel k a=true→nrefLM L sel (k + a.length) b=true→nrefLM L sel k (a++b)=true
 | [],b,k,_,h=>h
 | x :: a,b,k,h1,h2=>by
  have h1':((sel.contains k || L.all fun b=>PV.nrefs b x) && nrefLM L sel (k + 1) a)=true:=h1
  rw [Bool.and_eq_true] at h1'
  show ((sel.contains k || L.all fun b=>PV.nrefs b x) && nrefLM L sel (k + 1) (a++b))=true
  rw [h1'.1,nrefLM_app L sel a b (k + 1) h1'.2 (by rw [show k + 1 + a.length=k + (x :: a).length by simp;omega];exact h2)]
  rfl
theorem ChR_exB (L:List Nat) (c:Ch) (p:Pp):exB L (ChR c p)=true:=by
 unfold exB ChR
 simp only [List.all_cons,nrefL_flat,List.all_nil,Bool.and_self]
variable {S0:Reg} {O0:Owns} {w0:World} {m0 Bs l:List Nat} {ds:List Deferred} {fr:List Fr} {Q:Exit→GS→Prop} {ops:Array Oper} {i t:Nat} {sl:List (Nat×PV)} {x1 x2 args:List PV} {ex:List (List PV)} {f:FuncId} {c c':Ch} {r:PV}
theorem cj2 (h:cms ops.toList n i sl=some (t,f,args)) (hc:Mt f args c r c') (hp:p.Ok)
 (hg:∀ p',p'.Ok→GF ⟨Tryd.prog,n,S0,O0,w0,m0,Bs,ds⟩ fr (.ops ops l) Q ⟨(t,r) :: sansL [3,4,5,6,7,8] sl,ChA c' p' 3 4 5 6 7 8 :: x1 :: x2 :: (ChR c' p'++ex)⟩) (hm0:m0.length≤3:=by omega) (hargs:args=PV.rens (fun b=>[0,3,4,5,6,7,8].getD b 0) args:=by rfl) (hra:PV.refsBs 7 args=true:=by rfl) (hr:r.ren (renN [0,3,4,5,6,7,8] (ChA c p 3 4 5 6 7 8 :: x1 :: x2 :: (ChR c p++ex)).length)=r:=by rfl) (hx:exB [3,4,5,6,7,8] [x1,x2]=true:=by rfl) (hex:exB [3,4,5,6,7,8] ex=true:=by rfl):GF ⟨Tryd.prog,n,S0,O0,w0,m0,Bs,ds⟩ fr (.ops ops (i :: l)) Q ⟨sl,ChA c p 3 4 5 6 7 8 :: x1 :: x2 :: (ChR c p++ex)⟩:=by
 refine gJ (jn:=1) [0,3,4,5,6,7,8] h (hc p hp) hargs (by decide) (fun b hb=>?_) ?_ hra (ChM_refs c p) (fun b hb=>?_) ?_ ?_
 · have:b < 9:=by
    have h:∀ b ∈ [0,3,4,5,6,7,8],b < 9:=by decide
    exact h b hb
   have h7:(ChA c p 3 4 5 6 7 8 :: x1 :: x2 :: (ChR c p++ex)).length=9 + ex.length:=by simp [ChR];omega
   omega
 · rw [ChM_rens];rfl
 · have h1:3≤b:=by
    have h:∀ b ∈ [3,4,5,6,7,8],3≤b:=by decide
    exact h b hb
   exact Nat.le_trans hm0 h1
 · have h1:=nrefLM_ex [3,4,5,6,7,8] [0,3,4,5,6,7,8] ex 9 hex
   have h2:=nrefLM_ex [3,4,5,6,7,8] [0,3,4,5,6,7,8] [x1,x2] 1 hx
   have h3:=nrefLM_app [3,4,5,6,7,8] [0,3,4,5,6,7,8] ([x1,x2]) (ChR c p++ex) 1 h2 (nrefLM_app [3,4,5,6,7,8] [0,3,4,5,6,7,8] (ChR c p) ex 3 (nrefLM_ex [3,4,5,6,7,8] [0,3,4,5,6,7,8] (ChR c p) 3 (ChR_exB _ c p)) h1)
   show ((true || _) && _)=true
   rw [Bool.true_or,Bool.true_and]
   exact h3
 · rintro q m ⟨rfl,p',hp',rfl⟩ _
   have h2:stJ 1 [0,3,4,5,6,7,8] sl (ChA c p 3 4 5 6 7 8 :: x1 :: x2 :: (ChR c p++ex)) t q (ChM c' p')=⟨(t,q) :: sansL [3,4,5,6,7,8] sl,ChA c' p' 3 4 5 6 7 8 :: x1 :: x2 :: (ChR c' p'++ex)⟩:=by
    unfold stJ
    rw [hr]
    refine Z31 ?_
    rw [show (ChM c' p').take (List.length [0,3,4,5,6,7,8])=ChM c' p' from rfl,show (ChM c' p').drop (List.length [0,3,4,5,6,7,8])=[] from rfl,ChM_rens,List.map_nil,List.append_nil]
    rfl
   rw [h2]
   exact hg p' hp'
variable {x3 x4:List PV}
theorem cj4 (h:cms ops.toList n i sl=some (t,f,args)) (hc:Mt f args c r c') (hp:p.Ok)
 (hg:∀ p',p'.Ok→GF ⟨Tryd.prog,n,S0,O0,w0,m0,Bs,ds⟩ fr (.ops ops l) Q ⟨(t,r) :: sansL [5,6,7,8,9,10] sl,ChA c' p' 5 6 7 8 9 10 :: x1 :: x2 :: x3 :: x4 :: (ChR c' p'++ex)⟩) (hm0:m0.length≤5:=by omega) (hargs:args=PV.rens (fun b=>[0,5,6,7,8,9,10].getD b 0) args:=by rfl) (hra:PV.refsBs 7 args=true:=by rfl) (hr:r.ren (renN [0,5,6,7,8,9,10] (ChA c p 5 6 7 8 9 10 :: x1 :: x2 :: x3 :: x4 :: (ChR c p++ex)).length)=r:=by rfl) (hx:exB [5,6,7,8,9,10] [x1,x2,x3,x4]=true:=by rfl) (hex:exB [5,6,7,8,9,10] ex=true:=by rfl):GF ⟨Tryd.prog,n,S0,O0,w0,m0,Bs,ds⟩ fr (.ops ops (i :: l)) Q ⟨sl,ChA c p 5 6 7 8 9 10 :: x1 :: x2 :: x3 :: x4 :: (ChR c p++ex)⟩:=by
 refine gJ (jn:=1) [0,5,6,7,8,9,10] h (hc p hp) hargs (by decide) (fun b hb=>?_) ?_ hra (ChM_refs c p) (fun b hb=>?_) ?_ ?_
 · have:b < 11:=by
    have h:∀ b ∈ [0,5,6,7,8,9,10],b < 11:=by decide
    exact h b hb
   have h7:(ChA c p 5 6 7 8 9 10 :: x1 :: x2 :: x3 :: x4 :: (ChR c p++ex)).length=11 + ex.length:=by simp [ChR];omega
   omega
 · rw [ChM_rens];rfl
 · have h1:5≤b:=by
    have h:∀ b ∈ [5,6,7,8,9,10],5≤b:=by decide
    exact h b hb
   exact Nat.le_trans hm0 h1
 · have h1:=nrefLM_ex [5,6,7,8,9,10] [0,5,6,7,8,9,10] ex 11 hex
   have h2:=nrefLM_ex [5,6,7,8,9,10] [0,5,6,7,8,9,10] [x1,x2,x3,x4] 1 hx
   have h3:=nrefLM_app [5,6,7,8,9,10] [0,5,6,7,8,9,10] ([x1,x2,x3,x4]) (ChR c p++ex) 1 h2 (nrefLM_app [5,6,7,8,9,10] [0,5,6,7,8,9,10] (ChR c p) ex 5 (nrefLM_ex [5,6,7,8,9,10] [0,5,6,7,8,9,10] (ChR c p) 5 (ChR_exB _ c p)) h1)
   show ((true || _) && _)=true
   rw [Bool.true_or,Bool.true_and]
   exact h3
 · rintro q m ⟨rfl,p',hp',rfl⟩ _
   have h2:stJ 1 [0,5,6,7,8,9,10] sl (ChA c p 5 6 7 8 9 10 :: x1 :: x2 :: x3 :: x4 :: (ChR c p++ex)) t q (ChM c' p')=⟨(t,q) :: sansL [5,6,7,8,9,10] sl,ChA c' p' 5 6 7 8 9 10 :: x1 :: x2 :: x3 :: x4 :: (ChR c' p'++ex)⟩:=by
    unfold stJ
    rw [hr]
    refine Z31 ?_
    rw [show (ChM c' p').take (List.length [0,5,6,7,8,9,10])=ChM c' p' from rfl,show (ChM c' p').drop (List.length [0,5,6,7,8,9,10])=[] from rfl,ChM_rens,List.map_nil,List.append_nil]
    rfl
   rw [h2]
   exact hg p' hp'
theorem gChD4 {K:Ctx} {cf:Cf} (hp:p.Ok) (hg:GF K fr cf Q ⟨sl,[chD c,x1,x2,x3,x4]⟩) (hm:K.m0.length≤5) (hsl:sl.all (fun x=>nrefL [5,6,7,8,9,10] x.2)=true:=by rfl) (hx:exB [5,6,7,8,9,10] [x1,x2,x3,x4]=true:=by rfl) (hc:goes cf=true:=by rfl):GF K fr cf Q ⟨sl,ChA c p 5 6 7 8 9 10 :: x1 :: x2 :: x3 :: x4 :: ChR c p⟩:=by
 have he:∀ (n:Nat),n ∈ [5,6,7,8,9,10]→∀ (k:Nat) (pre xs post:List D) (rs:List (List PV)),(∀ c ∈ rs,∃ ds,c=flat ds)→(x1 :: x2 :: x3 :: x4 :: rs).map (PV.frzs n noF (rowHG k pre xs post) .undef)=x1 :: x2 :: x3 :: x4 :: rs:=by
  intro n hn k pre xs post rs hrs
  have h1:=frz_ex (n:=n) (F:=noF) (H:=rowHG k pre xs post) (X:=.undef) hn hx
  have h2:rs.map (PV.frzs n noF (rowHG k pre xs post) .undef)=rs:=by
   clear h1 hg
   induction rs with
   | nil=>rfl
   | cons a rs ih=>
    obtain ⟨ds,rfl⟩:=hrs a (by simp)
    rw [List.map_cons,frz_flat,ih (fun c hc=>hrs c (by simp [hc]))]
  rw [show (x1 :: x2 :: x3 :: x4 :: rs)=[x1,x2,x3,x4]++rs from rfl,List.map_append,h1,h2]
 refine (show GF _ _ _ _ ⟨_,([.d (.int .i64 c.win),.d (.int .i64 c.base),.d (.int .i64 c.nxt),rowV 5 1 p.u1 (sD c.una) p.u2,rowV 6 1 p.w1 (sD c.wai) p.w2,.d (.int .i64 c.exp),rowV 10 3 p.e1 (pD c.ear) p.e2,rowV 7 1 p.d1 (sD c.del) p.d2,rowV 8 1 p.t1 (sD c.tos) p.t2,rowV 9 1 p.b1 (sD c.bak) p.b2] :: x1 :: x2 :: x3 :: x4 :: [flat (p.u1++sD c.una++p.u2),flat (p.w1++sD c.wai++p.w2),flat (p.d1++sD c.del++p.d2),flat (p.t1++sD c.tos++p.t2),flat (p.b1++sD c.bak++p.b2)])++[flat (p.e1++pD c.ear++p.e2)]⟩ from ?_)
 refine gFrG (keep':=([.d (.int .i64 c.win),.d (.int .i64 c.base),.d (.int .i64 c.nxt),rowV 5 1 p.u1 (sD c.una) p.u2,rowV 6 1 p.w1 (sD c.wai) p.w2,.d (.int .i64 c.exp),.d (.sl (pD c.ear)),rowV 7 1 p.d1 (sD c.del) p.d2,rowV 8 1 p.t1 (sD c.tos) p.t2,rowV 9 1 p.b1 (sD c.bak) p.b2] :: x1 :: x2 :: x3 :: x4 :: [flat (p.u1++sD c.una++p.u2),flat (p.w1++sD c.wai++p.w2),flat (p.d1++sD c.del++p.d2),flat (p.t1++sD c.tos++p.t2),flat (p.b1++sD c.bak++p.b2)])) p.e1 (pD c.ear) p.e2 3 10 rfl (ok_e hp _) (by decide) (Nat.le_trans hm (by decide)) (frz_slots (L:=[5,6,7,8,9,10]) (by decide) hsl) (by rw [List.map_cons,he 10 (by decide) _ _ _ _ _ (fl_cons _ (fl_cons _ (fl_cons _ (fl_cons _ (fl_cons _ fl_nil)))))];refine congrArg (· :: _) ?_;simp [PV.frzs,PV.frz,rowV,rowHG]) hc ?_
 refine (show GF _ _ _ _ ⟨_,([.d (.int .i64 c.win),.d (.int .i64 c.base),.d (.int .i64 c.nxt),rowV 5 1 p.u1 (sD c.una) p.u2,rowV 6 1 p.w1 (sD c.wai) p.w2,.d (.int .i64 c.exp),.d (.sl (pD c.ear)),rowV 7 1 p.d1 (sD c.del) p.d2,rowV 8 1 p.t1 (sD c.tos) p.t2,rowV 9 1 p.b1 (sD c.bak) p.b2] :: x1 :: x2 :: x3 :: x4 :: [flat (p.u1++sD c.una++p.u2),flat (p.w1++sD c.wai++p.w2),flat (p.d1++sD c.del++p.d2),flat (p.t1++sD c.tos++p.t2)])++[flat (p.b1++sD c.bak++p.b2)]⟩ from ?_)
 refine gFrG (keep':=([.d (.int .i64 c.win),.d (.int .i64 c.base),.d (.int .i64 c.nxt),rowV 5 1 p.u1 (sD c.una) p.u2,rowV 6 1 p.w1 (sD c.wai) p.w2,.d (.int .i64 c.exp),.d (.sl (pD c.ear)),rowV 7 1 p.d1 (sD c.del) p.d2,rowV 8 1 p.t1 (sD c.tos) p.t2,.d (.sl (sD c.bak))] :: x1 :: x2 :: x3 :: x4 :: [flat (p.u1++sD c.una++p.u2),flat (p.w1++sD c.wai++p.w2),flat (p.d1++sD c.del++p.d2),flat (p.t1++sD c.tos++p.t2)])) p.b1 (sD c.bak) p.b2 1 9 rfl (ok_b hp _) (by decide) (Nat.le_trans hm (by decide)) (frz_slots (L:=[5,6,7,8,9,10]) (by decide) hsl) (by rw [List.map_cons,he 9 (by decide) _ _ _ _ _ (fl_cons _ (fl_cons _ (fl_cons _ (fl_cons _ fl_nil))))];refine congrArg (· :: _) ?_;simp [PV.frzs,PV.frz,rowV,rowHG]) hc ?_
 refine (show GF _ _ _ _ ⟨_,([.d (.int .i64 c.win),.d (.int .i64 c.base),.d (.int .i64 c.nxt),rowV 5 1 p.u1 (sD c.una) p.u2,rowV 6 1 p.w1 (sD c.wai) p.w2,.d (.int .i64 c.exp),.d (.sl (pD c.ear)),rowV 7 1 p.d1 (sD c.del) p.d2,rowV 8 1 p.t1 (sD c.tos) p.t2,.d (.sl (sD c.bak))] :: x1 :: x2 :: x3 :: x4 :: [flat (p.u1++sD c.una++p.u2),flat (p.w1++sD c.wai++p.w2),flat (p.d1++sD c.del++p.d2)])++[flat (p.t1++sD c.tos++p.t2)]⟩ from ?_)
 refine gFrG (keep':=([.d (.int .i64 c.win),.d (.int .i64 c.base),.d (.int .i64 c.nxt),rowV 5 1 p.u1 (sD c.una) p.u2,rowV 6 1 p.w1 (sD c.wai) p.w2,.d (.int .i64 c.exp),.d (.sl (pD c.ear)),rowV 7 1 p.d1 (sD c.del) p.d2,.d (.sl (sD c.tos)),.d (.sl (sD c.bak))] :: x1 :: x2 :: x3 :: x4 :: [flat (p.u1++sD c.una++p.u2),flat (p.w1++sD c.wai++p.w2),flat (p.d1++sD c.del++p.d2)])) p.t1 (sD c.tos) p.t2 1 8 rfl (ok_t hp _) (by decide) (Nat.le_trans hm (by decide)) (frz_slots (L:=[5,6,7,8,9,10]) (by decide) hsl) (by rw [List.map_cons,he 8 (by decide) _ _ _ _ _ (fl_cons _ (fl_cons _ (fl_cons _ fl_nil)))];refine congrArg (· :: _) ?_;simp [PV.frzs,PV.frz,rowV,rowHG]) hc ?_
 refine (show GF _ _ _ _ ⟨_,([.d (.int .i64 c.win),.d (.int .i64 c.base),.d (.int .i64 c.nxt),rowV 5 1 p.u1 (sD c.una) p.u2,rowV 6 1 p.w1 (sD c.wai) p.w2,.d (.int .i64 c.exp),.d (.sl (pD c.ear)),rowV 7 1 p.d1 (sD c.del) p.d2,.d (.sl (sD c.tos)),.d (.sl (sD c.bak))] :: x1 :: x2 :: x3 :: x4 :: [flat (p.u1++sD c.una++p.u2),flat (p.w1++sD c.wai++p.w2)])++[flat (p.d1++sD c.del++p.d2)]⟩ from ?_)
 refine gFrG (keep':=([.d (.int .i64 c.win),.d (.int .i64 c.base),.d (.int .i64 c.nxt),rowV 5 1 p.u1 (sD c.una) p.u2,rowV 6 1 p.w1 (sD c.wai) p.w2,.d (.int .i64 c.exp),.d (.sl (pD c.ear)),.d (.sl (sD c.del)),.d (.sl (sD c.tos)),.d (.sl (sD c.bak))] :: x1 :: x2 :: x3 :: x4 :: [flat (p.u1++sD c.una++p.u2),flat (p.w1++sD c.wai++p.w2)])) p.d1 (sD c.del) p.d2 1 7 rfl (ok_d hp _) (by decide) (Nat.le_trans hm (by decide)) (frz_slots (L:=[5,6,7,8,9,10]) (by decide) hsl) (by rw [List.map_cons,he 7 (by decide) _ _ _ _ _ (fl_cons _ (fl_cons _ fl_nil))];refine congrArg (· :: _) ?_;simp [PV.frzs,PV.frz,rowV,rowHG]) hc ?_
 refine (show GF _ _ _ _ ⟨_,([.d (.int .i64 c.win),.d (.int .i64 c.base),.d (.int .i64 c.nxt),rowV 5 1 p.u1 (sD c.una) p.u2,rowV 6 1 p.w1 (sD c.wai) p.w2,.d (.int .i64 c.exp),.d (.sl (pD c.ear)),.d (.sl (sD c.del)),.d (.sl (sD c.tos)),.d (.sl (sD c.bak))] :: x1 :: x2 :: x3 :: x4 :: [flat (p.u1++sD c.una++p.u2)])++[flat (p.w1++sD c.wai++p.w2)]⟩ from ?_)
 refine gFrG (keep':=([.d (.int .i64 c.win),.d (.int .i64 c.base),.d (.int .i64 c.nxt),rowV 5 1 p.u1 (sD c.una) p.u2,.d (.sl (sD c.wai)),.d (.int .i64 c.exp),.d (.sl (pD c.ear)),.d (.sl (sD c.del)),.d (.sl (sD c.tos)),.d (.sl (sD c.bak))] :: x1 :: x2 :: x3 :: x4 :: [flat (p.u1++sD c.una++p.u2)])) p.w1 (sD c.wai) p.w2 1 6 rfl (ok_w hp _) (by decide) (Nat.le_trans hm (by decide)) (frz_slots (L:=[5,6,7,8,9,10]) (by decide) hsl) (by rw [List.map_cons,he 6 (by decide) _ _ _ _ _ (fl_cons _ fl_nil)];refine congrArg (· :: _) ?_;simp [PV.frzs,PV.frz,rowV,rowHG]) hc ?_
 refine (show GF _ _ _ _ ⟨_,([.d (.int .i64 c.win),.d (.int .i64 c.base),.d (.int .i64 c.nxt),rowV 5 1 p.u1 (sD c.una) p.u2,.d (.sl (sD c.wai)),.d (.int .i64 c.exp),.d (.sl (pD c.ear)),.d (.sl (sD c.del)),.d (.sl (sD c.tos)),.d (.sl (sD c.bak))] :: x1 :: x2 :: x3 :: x4 :: [])++[flat (p.u1++sD c.una++p.u2)]⟩ from ?_)
 refine gFrG (keep':=([.d (.int .i64 c.win),.d (.int .i64 c.base),.d (.int .i64 c.nxt),.d (.sl (sD c.una)),.d (.sl (sD c.wai)),.d (.int .i64 c.exp),.d (.sl (pD c.ear)),.d (.sl (sD c.del)),.d (.sl (sD c.tos)),.d (.sl (sD c.bak))] :: x1 :: x2 :: x3 :: x4 :: [])) p.u1 (sD c.una) p.u2 1 5 rfl (ok_u hp _) (by decide) (Nat.le_trans hm (by decide)) (frz_slots (L:=[5,6,7,8,9,10]) (by decide) hsl) (by rw [List.map_cons,he 5 (by decide) _ _ _ _ _ fl_nil];refine congrArg (· :: _) ?_;simp [PV.frzs,PV.frz,rowV,rowHG]) hc ?_
 exact hg
theorem cj5 {x5:List PV} (h:cms ops.toList n i sl=some (t,f,args)) (hc:Mt f args c r c') (hp:p.Ok)
 (hg:∀ p',p'.Ok→GF ⟨Tryd.prog,n,S0,O0,w0,m0,Bs,ds⟩ fr (.ops ops l) Q ⟨(t,r) :: sansL [6,7,8,9,10,11] sl,ChA c' p' 6 7 8 9 10 11 :: x1 :: x2 :: x3 :: x4 :: x5 :: (ChR c' p'++ex)⟩) (hm0:m0.length≤6:=by omega) (hargs:args=PV.rens (fun b=>[0,6,7,8,9,10,11].getD b 0) args:=by rfl) (hra:PV.refsBs 7 args=true:=by rfl) (hr:r.ren (renN [0,6,7,8,9,10,11] (ChA c p 6 7 8 9 10 11 :: x1 :: x2 :: x3 :: x4 :: x5 :: (ChR c p++ex)).length)=r:=by rfl) (hx:exB [6,7,8,9,10,11] [x1,x2,x3,x4,x5]=true:=by rfl) (hex:exB [6,7,8,9,10,11] ex=true:=by rfl):GF ⟨Tryd.prog,n,S0,O0,w0,m0,Bs,ds⟩ fr (.ops ops (i :: l)) Q ⟨sl,ChA c p 6 7 8 9 10 11 :: x1 :: x2 :: x3 :: x4 :: x5 :: (ChR c p++ex)⟩:=by
 refine gJ (jn:=1) [0,6,7,8,9,10,11] h (hc p hp) hargs (by decide) (fun b hb=>?_) ?_ hra (ChM_refs c p) (fun b hb=>?_) ?_ ?_
 · have:b < 12:=by
    have h:∀ b ∈ [0,6,7,8,9,10,11],b < 12:=by decide
    exact h b hb
   have h7:(ChA c p 6 7 8 9 10 11 :: x1 :: x2 :: x3 :: x4 :: x5 :: (ChR c p++ex)).length=12 + ex.length:=by simp [ChR];omega
   omega
 · rw [ChM_rens];rfl
 · have h1:6≤b:=by
    have h:∀ b ∈ [6,7,8,9,10,11],6≤b:=by decide
    exact h b hb
   exact Nat.le_trans hm0 h1
 · have h1:=nrefLM_ex [6,7,8,9,10,11] [0,6,7,8,9,10,11] ex 12 hex
   have h2:=nrefLM_ex [6,7,8,9,10,11] [0,6,7,8,9,10,11] [x1,x2,x3,x4,x5] 1 hx
   have h3:=nrefLM_app [6,7,8,9,10,11] [0,6,7,8,9,10,11] ([x1,x2,x3,x4,x5]) (ChR c p++ex) 1 h2 (nrefLM_app [6,7,8,9,10,11] [0,6,7,8,9,10,11] (ChR c p) ex 6 (nrefLM_ex [6,7,8,9,10,11] [0,6,7,8,9,10,11] (ChR c p) 6 (ChR_exB _ c p)) h1)
   show ((true || _) && _)=true
   rw [Bool.true_or,Bool.true_and]
   exact h3
 · rintro q m ⟨rfl,p',hp',rfl⟩ _
   have h2:stJ 1 [0,6,7,8,9,10,11] sl (ChA c p 6 7 8 9 10 11 :: x1 :: x2 :: x3 :: x4 :: x5 :: (ChR c p++ex)) t q (ChM c' p')=⟨(t,q) :: sansL [6,7,8,9,10,11] sl,ChA c' p' 6 7 8 9 10 11 :: x1 :: x2 :: x3 :: x4 :: x5 :: (ChR c' p'++ex)⟩:=by
    unfold stJ
    rw [hr]
    refine Z31 ?_
    rw [show (ChM c' p').take (List.length [0,6,7,8,9,10,11])=ChM c' p' from rfl,show (ChM c' p').drop (List.length [0,6,7,8,9,10,11])=[] from rfl,ChM_rens,List.map_nil,List.append_nil]
    rfl
   rw [h2]
   exact hg p' hp'
theorem gChD5 {K:Ctx} {cf:Cf} {x5:List PV} (hp:p.Ok) (hg:GF K fr cf Q ⟨sl,[chD c,x1,x2,x3,x4,x5]⟩) (hm:K.m0.length≤6) (hsl:sl.all (fun x=>nrefL [6,7,8,9,10,11] x.2)=true:=by rfl) (hx:exB [6,7,8,9,10,11] [x1,x2,x3,x4,x5]=true:=by rfl) (hc:goes cf=true:=by rfl):GF K fr cf Q ⟨sl,ChA c p 6 7 8 9 10 11 :: x1 :: x2 :: x3 :: x4 :: x5 :: ChR c p⟩:=by
 have he:∀ (n:Nat),n ∈ [6,7,8,9,10,11]→∀ (k:Nat) (pre xs post:List D) (rs:List (List PV)),(∀ c ∈ rs,∃ ds,c=flat ds)→(x1 :: x2 :: x3 :: x4 :: x5 :: rs).map (PV.frzs n noF (rowHG k pre xs post) .undef)=x1 :: x2 :: x3 :: x4 :: x5 :: rs:=by
  intro n hn k pre xs post rs hrs
  have h1:=frz_ex (n:=n) (F:=noF) (H:=rowHG k pre xs post) (X:=.undef) hn hx
  have h2:rs.map (PV.frzs n noF (rowHG k pre xs post) .undef)=rs:=by
   clear h1 hg
   induction rs with
   | nil=>rfl
   | cons a rs ih=>
    obtain ⟨ds,rfl⟩:=hrs a (by simp)
    rw [List.map_cons,frz_flat,ih (fun c hc=>hrs c (by simp [hc]))]
  rw [show (x1 :: x2 :: x3 :: x4 :: x5 :: rs)=[x1,x2,x3,x4,x5]++rs from rfl,List.map_append,h1,h2]
 refine (show GF _ _ _ _ ⟨_,([.d (.int .i64 c.win),.d (.int .i64 c.base),.d (.int .i64 c.nxt),rowV 6 1 p.u1 (sD c.una) p.u2,rowV 7 1 p.w1 (sD c.wai) p.w2,.d (.int .i64 c.exp),rowV 11 3 p.e1 (pD c.ear) p.e2,rowV 8 1 p.d1 (sD c.del) p.d2,rowV 9 1 p.t1 (sD c.tos) p.t2,rowV 10 1 p.b1 (sD c.bak) p.b2] :: x1 :: x2 :: x3 :: x4 :: x5 :: [flat (p.u1++sD c.una++p.u2),flat (p.w1++sD c.wai++p.w2),flat (p.d1++sD c.del++p.d2),flat (p.t1++sD c.tos++p.t2),flat (p.b1++sD c.bak++p.b2)])++[flat (p.e1++pD c.ear++p.e2)]⟩ from ?_)
 refine gFrG (keep':=([.d (.int .i64 c.win),.d (.int .i64 c.base),.d (.int .i64 c.nxt),rowV 6 1 p.u1 (sD c.una) p.u2,rowV 7 1 p.w1 (sD c.wai) p.w2,.d (.int .i64 c.exp),.d (.sl (pD c.ear)),rowV 8 1 p.d1 (sD c.del) p.d2,rowV 9 1 p.t1 (sD c.tos) p.t2,rowV 10 1 p.b1 (sD c.bak) p.b2] :: x1 :: x2 :: x3 :: x4 :: x5 :: [flat (p.u1++sD c.una++p.u2),flat (p.w1++sD c.wai++p.w2),flat (p.d1++sD c.del++p.d2),flat (p.t1++sD c.tos++p.t2),flat (p.b1++sD c.bak++p.b2)])) p.e1 (pD c.ear) p.e2 3 11 rfl (ok_e hp _) (by decide) (Nat.le_trans hm (by decide)) (frz_slots (L:=[6,7,8,9,10,11]) (by decide) hsl) (by rw [List.map_cons,he 11 (by decide) _ _ _ _ _ (fl_cons _ (fl_cons _ (fl_cons _ (fl_cons _ (fl_cons _ fl_nil)))))];refine congrArg (· :: _) ?_;simp [PV.frzs,PV.frz,rowV,rowHG]) hc ?_
 refine (show GF _ _ _ _ ⟨_,([.d (.int .i64 c.win),.d (.int .i64 c.base),.d (.int .i64 c.nxt),rowV 6 1 p.u1 (sD c.una) p.u2,rowV 7 1 p.w1 (sD c.wai) p.w2,.d (.int .i64 c.exp),.d (.sl (pD c.ear)),rowV 8 1 p.d1 (sD c.del) p.d2,rowV 9 1 p.t1 (sD c.tos) p.t2,rowV 10 1 p.b1 (sD c.bak) p.b2] :: x1 :: x2 :: x3 :: x4 :: x5 :: [flat (p.u1++sD c.una++p.u2),flat (p.w1++sD c.wai++p.w2),flat (p.d1++sD c.del++p.d2),flat (p.t1++sD c.tos++p.t2)])++[flat (p.b1++sD c.bak++p.b2)]⟩ from ?_)
 refine gFrG (keep':=([.d (.int .i64 c.win),.d (.int .i64 c.base),.d (.int .i64 c.nxt),rowV 6 1 p.u1 (sD c.una) p.u2,rowV 7 1 p.w1 (sD c.wai) p.w2,.d (.int .i64 c.exp),.d (.sl (pD c.ear)),rowV 8 1 p.d1 (sD c.del) p.d2,rowV 9 1 p.t1 (sD c.tos) p.t2,.d (.sl (sD c.bak))] :: x1 :: x2 :: x3 :: x4 :: x5 :: [flat (p.u1++sD c.una++p.u2),flat (p.w1++sD c.wai++p.w2),flat (p.d1++sD c.del++p.d2),flat (p.t1++sD c.tos++p.t2)])) p.b1 (sD c.bak) p.b2 1 10 rfl (ok_b hp _) (by decide) (Nat.le_trans hm (by decide)) (frz_slots (L:=[6,7,8,9,10,11]) (by decide) hsl) (by rw [List.map_cons,he 10 (by decide) _ _ _ _ _ (fl_cons _ (fl_cons _ (fl_cons _ (fl_cons _ fl_nil))))];refine congrArg (· :: _) ?_;simp [PV.frzs,PV.frz,rowV,rowHG]) hc ?_
 refine (show GF _ _ _ _ ⟨_,([.d (.int .i64 c.win),.d (.int .i64 c.base),.d (.int .i64 c.nxt),rowV 6 1 p.u1 (sD c.una) p.u2,rowV 7 1 p.w1 (sD c.wai) p.w2,.d (.int .i64 c.exp),.d (.sl (pD c.ear)),rowV 8 1 p.d1 (sD c.del) p.d2,rowV 9 1 p.t1 (sD c.tos) p.t2,.d (.sl (sD c.bak))] :: x1 :: x2 :: x3 :: x4 :: x5 :: [flat (p.u1++sD c.una++p.u2),flat (p.w1++sD c.wai++p.w2),flat (p.d1++sD c.del++p.d2)])++[flat (p.t1++sD c.tos++p.t2)]⟩ from ?_)
 refine gFrG (keep':=([.d (.int .i64 c.win),.d (.int .i64 c.base),.d (.int .i64 c.nxt),rowV 6 1 p.u1 (sD c.una) p.u2,rowV 7 1 p.w1 (sD c.wai) p.w2,.d (.int .i64 c.exp),.d (.sl (pD c.ear)),rowV 8 1 p.d1 (sD c.del) p.d2,.d (.sl (sD c.tos)),.d (.sl (sD c.bak))] :: x1 :: x2 :: x3 :: x4 :: x5 :: [flat (p.u1++sD c.una++p.u2),flat (p.w1++sD c.wai++p.w2),flat (p.d1++sD c.del++p.d2)])) p.t1 (sD c.tos) p.t2 1 9 rfl (ok_t hp _) (by decide) (Nat.le_trans hm (by decide)) (frz_slots (L:=[6,7,8,9,10,11]) (by decide) hsl) (by rw [List.map_cons,he 9 (by decide) _ _ _ _ _ (fl_cons _ (fl_cons _ (fl_cons _ fl_nil)))];refine congrArg (· :: _) ?_;simp [PV.frzs,PV.frz,rowV,rowHG]) hc ?_
 refine (show GF _ _ _ _ ⟨_,([.d (.int .i64 c.win),.d (.int .i64 c.base),.d (.int .i64 c.nxt),rowV 6 1 p.u1 (sD c.una) p.u2,rowV 7 1 p.w1 (sD c.wai) p.w2,.d (.int .i64 c.exp),.d (.sl (pD c.ear)),rowV 8 1 p.d1 (sD c.del) p.d2,.d (.sl (sD c.tos)),.d (.sl (sD c.bak))] :: x1 :: x2 :: x3 :: x4 :: x5 :: [flat (p.u1++sD c.una++p.u2),flat (p.w1++sD c.wai++p.w2)])++[flat (p.d1++sD c.del++p.d2)]⟩ from ?_)
 refine gFrG (keep':=([.d (.int .i64 c.win),.d (.int .i64 c.base),.d (.int .i64 c.nxt),rowV 6 1 p.u1 (sD c.una) p.u2,rowV 7 1 p.w1 (sD c.wai) p.w2,.d (.int .i64 c.exp),.d (.sl (pD c.ear)),.d (.sl (sD c.del)),.d (.sl (sD c.tos)),.d (.sl (sD c.bak))] :: x1 :: x2 :: x3 :: x4 :: x5 :: [flat (p.u1++sD c.una++p.u2),flat (p.w1++sD c.wai++p.w2)])) p.d1 (sD c.del) p.d2 1 8 rfl (ok_d hp _) (by decide) (Nat.le_trans hm (by decide)) (frz_slots (L:=[6,7,8,9,10,11]) (by decide) hsl) (by rw [List.map_cons,he 8 (by decide) _ _ _ _ _ (fl_cons _ (fl_cons _ fl_nil))];refine congrArg (· :: _) ?_;simp [PV.frzs,PV.frz,rowV,rowHG]) hc ?_
 refine (show GF _ _ _ _ ⟨_,([.d (.int .i64 c.win),.d (.int .i64 c.base),.d (.int .i64 c.nxt),rowV 6 1 p.u1 (sD c.una) p.u2,rowV 7 1 p.w1 (sD c.wai) p.w2,.d (.int .i64 c.exp),.d (.sl (pD c.ear)),.d (.sl (sD c.del)),.d (.sl (sD c.tos)),.d (.sl (sD c.bak))] :: x1 :: x2 :: x3 :: x4 :: x5 :: [flat (p.u1++sD c.una++p.u2)])++[flat (p.w1++sD c.wai++p.w2)]⟩ from ?_)
 refine gFrG (keep':=([.d (.int .i64 c.win),.d (.int .i64 c.base),.d (.int .i64 c.nxt),rowV 6 1 p.u1 (sD c.una) p.u2,.d (.sl (sD c.wai)),.d (.int .i64 c.exp),.d (.sl (pD c.ear)),.d (.sl (sD c.del)),.d (.sl (sD c.tos)),.d (.sl (sD c.bak))] :: x1 :: x2 :: x3 :: x4 :: x5 :: [flat (p.u1++sD c.una++p.u2)])) p.w1 (sD c.wai) p.w2 1 7 rfl (ok_w hp _) (by decide) (Nat.le_trans hm (by decide)) (frz_slots (L:=[6,7,8,9,10,11]) (by decide) hsl) (by rw [List.map_cons,he 7 (by decide) _ _ _ _ _ (fl_cons _ fl_nil)];refine congrArg (· :: _) ?_;simp [PV.frzs,PV.frz,rowV,rowHG]) hc ?_
 refine (show GF _ _ _ _ ⟨_,([.d (.int .i64 c.win),.d (.int .i64 c.base),.d (.int .i64 c.nxt),rowV 6 1 p.u1 (sD c.una) p.u2,.d (.sl (sD c.wai)),.d (.int .i64 c.exp),.d (.sl (pD c.ear)),.d (.sl (sD c.del)),.d (.sl (sD c.tos)),.d (.sl (sD c.bak))] :: x1 :: x2 :: x3 :: x4 :: x5 :: [])++[flat (p.u1++sD c.una++p.u2)]⟩ from ?_)
 refine gFrG (keep':=([.d (.int .i64 c.win),.d (.int .i64 c.base),.d (.int .i64 c.nxt),.d (.sl (sD c.una)),.d (.sl (sD c.wai)),.d (.int .i64 c.exp),.d (.sl (pD c.ear)),.d (.sl (sD c.del)),.d (.sl (sD c.tos)),.d (.sl (sD c.bak))] :: x1 :: x2 :: x3 :: x4 :: x5 :: [])) p.u1 (sD c.una) p.u2 1 6 rfl (ok_u hp _) (by decide) (Nat.le_trans hm (by decide)) (frz_slots (L:=[6,7,8,9,10,11]) (by decide) hsl) (by rw [List.map_cons,he 6 (by decide) _ _ _ _ _ fl_nil];refine congrArg (· :: _) ?_;simp [PV.frzs,PV.frz,rowV,rowHG]) hc ?_
 exact hg
end
section
def zeroC:Ch:=⟨0,0,0,[],[],0,[],[],[],[]⟩
def zcel:List PV:=[.d (.int .i64 0),.d (.int .i64 0),.d (.int .i64 0),.nils,.nils,.d (.int .i64 0),.nils,.nils,.nils,.nils]
def newC (n:Int):Ch:={ zeroC with win:=n }
def newE (n:Int):Int:=cond (decide (n < 1) || decide (n > 16)) 4 0
def newS (n:Int):Ch:=cond (decide (n < 1) || decide (n > 16)) zeroC (newC n)
theorem c24 (n:Int):Pf Tryd.prog 24 [.int .i64 n] (.tup [.d (newS n).d,.d (.int .i64 (newE n))]):=by
 unfold newS newE
 refine pfb Tryd.func24 Tryd.ntmps24 Tryd.results24 (fun S0 O0 w0 m0 hm0=>?_)
 repeat' first | refine s_ ?_ | fail
 refine d_ (fun hb=>?_) (fun hb=>?_)
 · rw [hb]
   repeat' first | refine s_ ?_ | fail
   exact e_
 · rw [hb]
   repeat' first | refine s_ ?_ | fail
   exact e_
def sendE (c:Ch) (m:ByteArray):Int:=if chkC c=true then 331 else if (m.size:Int) > 200 then 7 else if IntKind.i64.wrap (c.nxt + (c.wai.length:Int))=10000 then 5 else 0
def sendS (c:Ch) (m:ByteArray):Ch:=if chkC c=true then zeroC else if (m.size:Int) > 200 then zeroC else if IntKind.i64.wrap (c.nxt + (c.wai.length:Int))=10000 then zeroC else if (c.una.length:Int) < c.win then nextC c m else { c with wai:=c.wai++[m] }
theorem c18 (c:Ch) (m:ByteArray) (hc:c.Few):Pf Tryd.prog 18 [c.d,.str m] (.tup [.d (sendS c m).d,.d (.int .i64 (sendE c m))]):=by
 have hc':=hc
 obtain ⟨h0,h1,h2,h3,h4,h5⟩:=hc'
 have q16:=c16 c (by omega) (by omega) (by omega) (by omega) (by omega) (by omega)
 have q40:=c40 c hc
 have q41:=c41 c m hc
 unfold sendS sendE
 unfold Ch.d at q16 q40 ⊢
 refine pfb Tryd.func18 Tryd.ntmps18 Tryd.results18 (fun S0 O0 w0 m0 hm0=>?_)
 repeat' first | refine s_ ?_ | refine c_ q16 ?_ | fail
 refine d_ (fun hb=>?_) (fun hb=>?_)
 · have hk:chkC c=true:=by
    cases hq:chkC c with
    | true=>rfl
    | false=>rw [hq] at hb;simp at hb
   rw [if_pos hk,if_pos hk,hk]
   repeat' first | refine s_ ?_ | fail
   exact e_
 have hk:¬ chkC c=true:=by
  intro hq
  rw [hq] at hb;simp at hb
 rw [if_neg hk,if_neg hk,if_neg hk]
 repeat' first | refine s_ ?_ | fail
 refine d_ (fun hb=>?_) (fun hb=>?_)
 · have h7:(m.size:Int) > 200:=oR hb
   rw [if_pos h7,if_pos h7]
   repeat' first | refine s_ ?_ | fail
   exact e_
 have h7:¬ (m.size:Int) > 200:=of_decide_eq_false hb
 rw [if_neg h7,if_neg h7]
 repeat' first | refine s_ ?_ | fail
 refine d_ (fun hb=>?_) (fun hb=>?_)
 · have h9:IntKind.i64.wrap (c.nxt + (c.wai.length:Int))=10000:=by rw [List.length_map] at hb;simpa using hb
   rw [if_pos h9,if_pos h9]
   repeat' first | refine s_ ?_ | fail
   exact e_
 have h9:¬ IntKind.i64.wrap (c.nxt + (c.wai.length:Int))=10000:=by rw [List.length_map] at hb;simpa using hb
 rw [if_neg h9,if_neg h9]
 repeat' first | refine s_ ?_ | fail
 refine cn (by exact rfl) q40 (r':=.agg (ChA c p0 5 6 7 8 9 10)) (mem':=(chD c :: zcel :: unk 10 :: unk 10 :: unk 5 :: ChR c p0)) ?_ rfl (by rw [List.map_append,ChR_rens];rfl)
 repeat' first | refine s_ ?_ | fail
 refine d_ (fun hb=>?_) (fun hb=>?_)
 · have hu:(c.una.length:Int) < c.win:=by have:=oR hb;rwa [sD_len] at this
   rw [if_pos hu]
   repeat' first | refine s_ ?_ | fail
   refine kp [(2,.ref 0 0),(4,.ref 1 0),(33,.d (.str m))] ⟨rfl,rfl,rfl,trivial⟩ ?_
   refine (show GF _ _ _ _ ⟨_,ChA c p0 5 6 7 8 9 10 :: zcel :: unk 10 :: unk 10 :: unk 5 :: (ChR c p0++[])⟩ from ?_)
   refine cj4 (by exact rfl) q41 p0_ok (fun p' hp'=>?_)
   rw [List.append_nil]
   refine gChD4 hp' ?_ (by show m0.length≤5;omega)
   repeat' first | refine s_ ?_ | fail
   exact e_
 have hu:¬ (c.una.length:Int) < c.win:=by have:=of_decide_eq_false hb;rwa [sD_len] at this
 rw [if_neg hu]
 repeat' first | refine s_ ?_ | refine bs (by exact rfl) ?_ | fail
 refine gCell 0 4 rfl rfl ?_ rfl rfl
 refine gApG (pre:=p0.w1) (xs:=sD c.wai) (post:=p0.w2) (ys:=[.str m]) rfl rfl rfl rfl rfl (by rw [hm0];decide) (by simp only [ChR,List.set_cons_zero,List.set_cons_succ,nrefM,nrefs_flat,Bool.or_true,Bool.true_and,Bool.and_true]<;>rfl) rfl (by simp) (row_k p0_ok.w1 (sD_k _) p0_ok.w2) (by simp [D.cells]) (by decide) u35 inf9 rfl (by simp [Value.cells,Value.oneCell']) (by rw [sD_len];unfold lim;simp;omega) (by rw [sD_len];unfold lim;simp;omega) (Nat.le_of_ble_eq_true rfl) (fun a b hab=>?_)
 rw [← List.length_append,sD_snoc]
 iterate 2 refine s_ ?_
 refine Z27 ?_
 refine (show GF _ _ _ _ ⟨_,ChA { c with wai:=c.wai++[m] } { p0 with w1:=a,w2:=b } 5 6 7 8 9 10 :: zcel :: unk 10 :: unk 10 :: unk 5 :: ChR { c with wai:=c.wai++[m] } { p0 with w1:=a,w2:=b }⟩ from ?_)
 refine gChD4 { p0_ok with w1:=fun x hx=>hab x (List.mem_append_left _ (List.mem_append_left _ hx)),w2:=fun x hx=>hab x (List.mem_append_right _ hx) } ?_ (by show m0.length≤5;omega)
 repeat' first | refine s_ ?_ | fail
 exact e_
end
section
theorem tab5 (X tX:Nat) (es es2:List (Nat×Nat×PV)) (nums:List Nat) {n:Nat} {S0:Reg} {O0:Owns} {w0:World} {m0 Bs:List Nat} {ds:List Deferred} {fr:List Fr} {Q:Exit→GS→Prop} {id:Nat} {ops:Array Oper} {sl base:List (Nat×PV)} {ds':List Nat} {x1 x2 x3 x4 x5:List PV} {ex:List (List PV)} {f:FuncId} {args:List PV} {c c':Ch} {p:Pp} {r:PV} {preX:List (Nat×PV)}
 (hb:baseK ops.toList sl=some (ds',base)) (hsX:pick (es++es2) (dsK [] ops X)++base=preX) (h:∀ rest,cms ops.toList n X (preX++rest)=some (tX,f,args)) (hc:Mt f args c r c') (hp:p.Ok)
 (hst:∀ a:{ q:Pp // q.Ok },eachN (TabOp ⟨Tryd.prog,n,S0,O0,w0,m0,Bs,ds⟩ ops [] base (es++(X,tX,r) :: es2) X ops.size (ChA c p 6 7 8 9 10 11 :: x1 :: x2 :: x3 :: x4 :: x5 :: (ChR c p++ex)) (ChA c' a.1 6 7 8 9 10 11 :: x1 :: x2 :: x3 :: x4 :: x5 :: (ChR c' a.1++ex)) (ChA c' a.1 6 7 8 9 10 11 :: x1 :: x2 :: x3 :: x4 :: x5 :: (ChR c' a.1++ex))) nums)
 (hg:∀ p',p'.Ok→GF ⟨Tryd.prog,n,S0,O0,w0,m0,Bs,ds⟩ fr (.leave .normal) Q ⟨((es++(X,tX,r) :: es2).filter fun (x:Nat×Nat×PV)=>(([]:List (Nat×Nat)).lookup x.1).isNone).map (·.2)++base,ChA c' p' 6 7 8 9 10 11 :: x1 :: x2 :: x3 :: x4 :: x5 :: (ChR c' p'++ex)⟩)
 (hdep:((List.range ops.size).all fun i=>(depsOf ops i).all fun d=>Nat.blt d i)=true:=by kernel_rfl) (hXn:Nat.blt X ops.size=true:=by rfl) (hnums:((List.range ops.size).all fun i=>Nat.beq i X || memN i nums)=true:=by kernel_rfl)
 (hall:((es++es2).map (fun (x:Nat×Nat×PV)=>x.1)).all (fun i=>!Nat.beq i X)=true:=by rfl) (hnd:nodupB (tX :: (es++es2).map (fun (x:Nat×Nat×PV)=>x.2.1))=true:=by rfl) (hbase:(base.map (fun (x:Nat×PV)=>x.1)).all (fun t=>!(tX :: (es++es2).map (fun (x:Nat×Nat×PV)=>x.2.1)).contains t)=true:=by rfl) (hfi:((es++es2).map (fun (x:Nat×Nat×PV)=>x.1)).all (fun i=>Nat.blt i ops.size)=true:=by rfl)
 (hgd:(es++es2).all (fun (e:Nat×Nat×PV)=>nrefL [6,7,8,9,10,11] e.2.2 || (match ([]:List (Nat×Nat)).lookup e.1 with | some m=>Nat.beq m X | none=>false))=true:=by rfl) (hgb:base.all (fun (x:Nat×PV)=>nrefL [6,7,8,9,10,11] x.2)=true:=by rfl)
 (hm0:m0.length≤1:=by omega) (hargs:args=PV.rens (fun b=>[0,6,7,8,9,10,11].getD b 0) args:=by rfl) (hra:PV.refsBs 7 args=true:=by rfl) (hr:r.ren (renN [0,6,7,8,9,10,11] (ChA c p 6 7 8 9 10 11 :: x1 :: x2 :: x3 :: x4 :: x5 :: (ChR c p++ex)).length)=r:=by rfl) (hx:exB [6,7,8,9,10,11] [x1,x2,x3,x4,x5]=true:=by rfl) (hex:exB [6,7,8,9,10,11] ex=true:=by rfl):GF ⟨Tryd.prog,n,S0,O0,w0,m0,Bs,ds⟩ fr (.code (.region id ops true)) Q ⟨sl,ChA c p 6 7 8 9 10 11 :: x1 :: x2 :: x3 :: x4 :: x5 :: (ChR c p++ex)⟩:=
 gTab (A:={ q:Pp // q.Ok }) X ops.size [] (nrefL [6,7,8,9,10,11]) es es2 tX (fun _=>r) (fun a=>ChA c' a.1 6 7 8 9 10 11 :: x1 :: x2 :: x3 :: x4 :: x5 :: (ChR c' a.1++ex)) (fun a=>ChA c' a.1 6 7 8 9 10 11 :: x1 :: x2 :: x3 :: x4 :: x5 :: (ChR c' a.1++ex)) ⟨p0,p0_ok⟩ nums hb mixed hdep hXn hnums hall hnd hbase rfl hfi hgd hgb hsX
  (fun rest Q' hQ=>cj5 (h rest) hc hp (fun p' hp'=>hQ ⟨p',hp'⟩) (by omega) hargs hra hr hx hex) hst (by rw [Nat.ble_eq];exact Nat.le_refl _) (by rw [beq_yes];rfl) (fun _ _=>rfl) (fun a=>hg a.1 a.2)
theorem und88:Tryd.prog.underlying 88=some (.func #[90,54] #[25] false):=by kernel_rfl
theorem und91:Tryd.prog.underlying 91=some (.array 6 88):=by kernel_rfl
theorem c44Dt (c:Ch) (k ix at_:Int):Gm Tryd.prog 44 [.ref 0 0,.d (acD k false ix at_)] [chD c] (.ref 0 8) [chD c]:=by
 unfold acD
 refine gmB 1 Tryd.func44 Tryd.ntmps44 Tryd.results44 (fun S0 O0 w0 m0 hm0=>?_)
 iterate 3 refine s_ ?_
 refine fz true (by exact rfl) ?_ (by rw [hm0];decide) rfl
 repeat' first | refine s_ ?_ | fail
 refine Z1 ?_
 repeat' first | refine s_ ?_ | fail
 exact enm (mem':=[chD c]) (by exact rfl) rfl (msame rfl)
theorem c44Db (c:Ch) (k ix at_:Int):Gm Tryd.prog 44 [.ref 0 0,.d (acD k true ix at_)] [chD c] (.ref 0 9) [chD c]:=by
 unfold acD
 refine gmB 1 Tryd.func44 Tryd.ntmps44 Tryd.results44 (fun S0 O0 w0 m0 hm0=>?_)
 iterate 3 refine s_ ?_
 refine fz true (by exact rfl) ?_ (by rw [hm0];decide) rfl
 repeat' first | refine s_ ?_ | fail
 refine Z16 ?_
 repeat' first | refine s_ ?_ | fail
 exact enm (mem':=[chD c]) (by exact rfl) rfl (msame rfl)
set_option maxRecDepth 100000 in
theorem c21_1t (c c':Ch) (ix at_ e:Int) (hc:c.Few) (hk:chkC c=false) (h0:0≤ix) (h1:ix < (c.tos.length:Int)) (hm:Mt 45 [.ref 0 0,.d (acD 1 false ix at_)] c (.d (.int .i64 e)) c'):Pf Tryd.prog 21 [c.d,acD 1 false ix at_] (.tup [.d (if e=0 then c' else zeroC).d,.d (.int .i64 e)]):=by
 have hc':=hc
 obtain ⟨g0,g1,g2,g3,g4,g5⟩:=hc'
 have q16:=c16 c (by omega) (by omega) (by omega) (by omega) (by omega) (by omega)
 rw [hk] at q16
 have q40:=c40 c hc
 have q44:=c44Dt c 1 ix at_
 unfold acD at q44 hm ⊢
 unfold Ch.d at q16 q40 ⊢
 refine pfb Tryd.func21 Tryd.ntmps21 Tryd.results21 (fun S0 O0 w0 m0 hm0=>?_)
 repeat' first | refine s_ ?_ | refine c_ q16 ?_ | fail
 refine Z1 ?_
 repeat' first | refine s_ ?_ | fail
 refine Z1 ?_
 repeat' first | refine s_ ?_ | fail
 have hgd:(1 != 5 && decide (ix < 0) == false)=true:=by simp;omega
 refine Z38 ?_
 iterate 10 refine ov (hc:=?_)
 refine oStep (p:=.d (.agg [.int .i64 1,.bool false,.int .i64 ix,.int .i64 at_])) (by exact rfl) (by exact rfl) (by exact rfl) ?_ (fun rest _ hg=>gOn (by exact rfl) hgd rfl rfl rfl rfl rfl (oR rfl) (st (by exact rfl) (gOnEnd hg)))
 refine oStep (p:=.ref 0 8) (by exact rfl) (by exact rfl) (by exact rfl) ?_ (fun rest _ hg=>gOn (by exact rfl) hgd rfl rfl rfl rfl rfl (oR rfl) (cs [0] (by exact rfl) q44 (gOnEnd hg)))
 iterate 6 refine ov (hc:=?_)
 refine Z36 ?_
 refine cf (by exact rfl) ?_ (by rw [List.length_map];simp;omega)
 repeat' first | refine s_ ?_ | fail
 refine cn (by exact rfl) q40 (r':=.agg (ChA c p0 6 7 8 9 10 11)) (mem':=(chD c :: [.d (.int .i64 1),.d (.bool false),.d (.int .i64 ix),.d (.int .i64 at_)] :: zcel :: unk 10 :: unk 10 :: unk 5 :: ChR c p0)) ?_ rfl (by rw [List.map_append,ChR_rens];rfl)
 repeat' first | refine s_ ?_ | fail
 refine Z3 ?_
 refine (show GF _ _ _ _ ⟨_,ChA c p0 6 7 8 9 10 11 :: [.d (.int .i64 1),.d (.bool false),.d (.int .i64 ix),.d (.int .i64 at_)] :: zcel :: unk 10 :: unk 10 :: unk 5 :: (ChR c p0++[[.d .nilF,.d (.fn (.func 45) [] []),.d (.fn (.func 46) [] []),.d (.fn (.func 47) [] []),.d (.fn (.func 48) [] []),.d (.fn (.func 49) [] [])]])⟩ from ?_)
 refine tab5 5 51 [(0,46,.ref 1 0),(1,47,.d (.int .i64 1)),(2,48,.ref 12 (0 + (1:Int).toNat * 1)),(3,49,.d (.fn (.func 45) [] [])),(4,50,.d (.agg [.int .i64 1,.bool false,.int .i64 ix,.int .i64 at_]))] [(6,8,.d (.int .i64 e))] [0,1,2,3,4,6] (by exact rfl) (by exact rfl) (fun rest=>rfl) hm p0_ok (fun a=>?_) (fun p' hp'=>?_)
 · refine ⟨?_,?_,?_,?_,?_,?_,trivial⟩
   iterate 2 exact ta_
   · exact tav (pre:=(47,.d (.int .i64 1)) :: [(2,.ref 0 0),(3,.ref 1 0),(4,.ref 2 0),(7,.ref 12 0)]) rfl rfl rfl rfl (by kernel_rfl) (fun _=>rfl) (fun rest ht=>by exact Q_arrAddr (b:=12) (o:=0) (m:=1) (k:=.i64) (i:=1) rfl rfl und91 (by kernel_rfl) (by decide) (by decide))
   · exact tav (pre:=(48,.ref 12 (0 + (1:Int).toNat * 1)) :: [(2,.ref 0 0),(3,.ref 1 0),(4,.ref 2 0),(7,.ref 12 0)]) rfl rfl rfl rfl (by kernel_rfl) (fun _=>rfl) (fun rest ht=>by exact Q_load_leaf (b:=12) (off:=0 + (1:Int).toNat * 1) (p:=.d (.fn (.func 45) [] [])) rfl rfl rfl und88 rfl rfl rfl ht)
   · exact ta_
   · exact tq3 (by exact rfl) (by exact rfl) rfl rfl (by exact fun _ _=>rfl)
 · refine s_ ?_
   refine Z5 ?_
   repeat' first | refine s_ ?_ | fail
   refine d_ (fun hb=>?_) (fun hb=>?_)
   · have he:¬ e=0:=by simpa using hb
     rw [if_neg he]
     repeat' first | refine s_ ?_ | fail
     exact e_
   · have he:e=0:=by simpa using hb
     subst he
     rw [if_pos rfl]
     refine Z11 ?_
     refine fg 12 (by exact rfl) ?_ rfl (by omega) (by show (PV.refsBs 12 (ChA c' p' 6 7 8 9 10 11) && (PV.refsBs 12 _ && (PV.refsBs 12 _ && (PV.refsBs 12 _ && (PV.refsBs 12 _ && (PV.refsBs 12 _ && (ChR c' p').all (PV.refsBs 12)))))))=true;rw [ChR_refs];rfl)
     refine (show GF _ _ _ _ ⟨_,ChA c' p' 6 7 8 9 10 11 :: [.d (.int .i64 1),.d (.bool false),.d (.int .i64 ix),.d (.int .i64 at_)] :: zcel :: unk 10 :: unk 10 :: unk 5 :: ChR c' p'⟩ from ?_)
     refine gChD5 hp' ?_ (by show m0.length≤6;omega)
     repeat' first | refine s_ ?_ | fail
     exact e_
end
end Go.Proofs.YtoonleefemkalaaDoor
