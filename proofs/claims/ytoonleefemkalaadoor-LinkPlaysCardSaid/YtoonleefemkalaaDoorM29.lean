import Derived.Test.YtoonleefemkalaaDoorM28
import Derived.Test.YtoonleefemkalaaDoorM18
/- Contracts of functions. Conditions: none. -/
set_option linter.unusedSimpArgs false
set_option linter.unusedVariables false
set_option maxRecDepth 20000
namespace Go.Proofs.YtoonleefemkalaaDoor
open Go Go.Proofs.YtoonleefemkalaaDoor.E
section
def ChDB (c:Ch) (d1 d2 b1 b2:List D) (x y:Nat):List PV:=[.d (.int .i64 c.win),.d (.int .i64 c.base),.d (.int .i64 c.nxt),.d (.sl (sD c.una)),.d (.sl (sD c.wai)),.d (.int .i64 c.exp),.d (.sl (pD c.ear)),rowV x 1 d1 (sD c.del) d2,.d (.sl (sD c.tos)),rowV y 1 b1 (sD c.bak) b2]
def Ok4 (q:List D×List D×List D×List D):Prop:=(∀ x ∈ q.1,x.cells.length=1)∧(∀ x ∈ q.2.1,x.cells.length=1)∧(∀ x ∈ q.2.2.1,x.cells.length=1)∧(∀ x ∈ q.2.2.2,x.cells.length=1)
def RowDB (c:Ch) (r:PV) (m:List (List PV)):Prop:=∃ d1 d2 b1 b2:List D,Ok4 (d1,d2,b1,b2)∧r=.agg (ChDB c d1 d2 b1 b2 0 1)∧m=[flat (d1++sD c.del++d2),flat (b1++sD c.bak++b2)]
def insF (q:Pk):List Pk→List Pk
 | []=>[q]
 | e :: r=>if e.nu=q.nu then e :: r else if e.nu > q.nu then q :: e :: r else e :: insF q r
def rcvG (c:Ch) (q:Pk):Ch:=if (q.nu == c.exp && decide (q.nu < c.nxt))=true then dueN c.ear.length (delC c q) else if ((decide (q.nu > c.exp) && decide (q.nu < IntKind.i64.wrap (c.exp + c.win))) && decide (q.nu < c.nxt))=true then { c with ear:=insF q c.ear } else c
def rcvF (c:Ch) (s:ByteArray):Ch:=if (deE s != 0 || (deP s).kd != 1)=true then c else ansC (rcvG c (deP s))
def InsI (ear:List Pk) (q:Pk) (x:List Pk×Bool×Nat):Prop:=x.2.2≤ear.length∧x.1.length≤x.2.2 + (if x.2.1=true then 1 else 0)∧insF q ear=x.1++(if x.2.1=true then ear.drop x.2.2 else insF q (ear.drop x.2.2))
variable {k:Nat}
theorem drop_get {α:Type} {l:List α} {e:α} (h:l[k]? = some e):l.drop k=e :: l.drop (k + 1):=by
 obtain ⟨hlt,he⟩:=List.getElem?_eq_some_iff.1 h
 rw [List.drop_eq_getElem_cons hlt,he]
theorem insI_put {ear:List Pk} {q e:Pk} {acc:List Pk} {dn z:Bool} (h:InsI ear q (acc,dn,k)) (hge:ear[k]? = some e) (hz:z=(dn || e.nu == q.nu)) (hb:(!z && decide (e.nu > q.nu))=true):InsI ear q (acc++[q]++[e],true,k + 1):=by
 obtain ⟨h1,h2,h3⟩:=h
 dsimp only at h1 h2 h3
 subst hz
 rw [Bool.and_eq_true,Bool.not_eq_true',Bool.or_eq_false_iff] at hb
 obtain ⟨⟨hd,hne⟩,hgt⟩:=hb
 subst hd
 have hne':¬ e.nu=q.nu:=by simpa using hne
 have hlt:=(lG hge)
 rw [drop_get hge] at h3
 refine ⟨hlt,?_,?_⟩
 · simp at h2 ⊢;omega
 · rw [h3]
   simp only [Bool.false_eq_true,if_false,if_true]
   rw [insF,if_neg hne',if_pos (oR hgt)]
   simp
theorem insI_go {ear:List Pk} {q e:Pk} {acc:List Pk} {dn z:Bool} (h:InsI ear q (acc,dn,k)) (hge:ear[k]? = some e) (hz:z=(dn || e.nu == q.nu)) (hb:(!z && decide (e.nu > q.nu))=false):InsI ear q (acc++[e],z,k + 1):=by
 obtain ⟨h1,h2,h3⟩:=h
 dsimp only at h1 h2 h3
 have hlt:=(lG hge)
 rw [drop_get hge] at h3
 cases dn with
 | true=>
  rw [Bool.true_or] at hz
  subst hz
  refine ⟨hlt,?_,?_⟩
  · simp at h2 ⊢;omega
  · rw [h3];simp
 | false=>
  rw [Bool.false_or] at hz
  by_cases he:e.nu=q.nu
  · have:z=true:=by rw [hz];simpa using he
    subst this
    refine ⟨hlt,?_,?_⟩
    · simp at h2 ⊢;omega
    · rw [h3]
      simp only [Bool.false_eq_true,if_false,if_true]
      rw [insF,if_pos he]
      simp
  · have:z=false:=by rw [hz];simpa using he
    subst this
    have hgt:¬ e.nu > q.nu:=by simpa using hb
    refine ⟨hlt,?_,?_⟩
    · simp at h2 ⊢;omega
    · rw [h3]
      simp only [Bool.false_eq_true,if_false]
      rw [insF,if_neg he,if_neg hgt]
      simp
theorem ansC_eq (c:Ch):ansC c={ c with bak:=sentL c.bak ⟨2,c.exp,ByteArray.empty⟩ }:=by
 unfold ansC sendB sentL
 by_cases h2:c.bak.length < 200
 · rw [if_pos h2,if_neg (by omega)]
 · rw [if_neg h2,if_pos (by omega)]
theorem J3 {A:Prop} (h:A:=by simp only [ChDB,rowV,List.set_cons_zero,List.set_cons_succ,nrefM,PV.nrefs,PV.nref,nrefs_flat,Bool.or_true,Bool.true_and,Bool.and_true]<;>rfl):A:=h
set_option maxRecDepth 100000 in
theorem c52 (c:Ch) (s:ByteArray) (d1 d2 b1 b2:List D) (hok:Ok4 (d1,d2,b1,b2)) (hc:c.Few) (hde:c.del.length + c.ear.length≤800000):Gj 0 Tryd.prog 52 [.agg (ChDB c d1 d2 b1 b2 0 1),.d (.str s)] [flat (d1++sD c.del++d2),flat (b1++sD c.bak++b2)] (RowDB (rcvF c s)):=by
 have q13:=c13 s
 rw [deRP_eq,deRE_eq] at q13
 unfold rcvF
 unfold Pk.d at q13
 refine gjB 0 2 Tryd.func52 Tryd.ntmps52 Tryd.results52 (fun S0 O0 w0 m0 hm0=>?_)
 repeat' first | refine s_ ?_ | refine c_ q13 ?_ | fail
 refine d_ (fun hb=>?_) (fun hb=>?_)
 · rw [if_pos hb]
   repeat' first | refine s_ ?_ | fail
   exact enj (mem':=[flat (d1++sD c.del++d2),flat (b1++sD c.bak++b2)]) (by exact rfl) ⟨d1,d2,b1,b2,hok,rfl,rfl⟩ (.cons (CSub_flat _ _) (.cons (CSub_flat _ _) .nil))
 rw [if_neg (by rw [hb];decide)]
 refine (show GF _ _ _ _ ⟨_,[flat (d1++sD c.del++d2),flat (b1++sD c.bak++b2),ChDB c d1 d2 b1 b2 0 1,zcel,[.d (.int .i64 (deP s).kd),.d (.int .i64 (deP s).nu),.d (.str (deP s).bo)]]⟩ from ?_)
 refine kp [(2,.ref 2 0),(4,.ref 3 0),(5,.ref 4 0)] ⟨rfl,rfl,rfl,trivial⟩ ?_
 repeat' first | refine s_ ?_ | fail
 refine gCutF (α:=Ch×List D×List D×List D×List D) (fun y=>⟨[(2,.ref 2 0),(4,.ref 3 0)],[flat (y.2.1++sD y.1.del++y.2.2.1),flat (y.2.2.2.1++sD y.1.bak++y.2.2.2.2),ChDB y.1 y.2.1 y.2.2.1 y.2.2.2.1 y.2.2.2.2 0 1,zcel]⟩) (fun y=>Ok4 y.2∧y.1=rcvG c (deP s)) (fun Q' hn' he' hr' hp'=>?_) (fun y hy=>?_)
 rotate_left
 · obtain ⟨c4,d3,d4,b3,b4⟩:=y
   obtain ⟨hok4,hc4⟩:Ok4 (d3,d4,b3,b4)∧c4=rcvG c (deP s):=hy
   rw [← hc4,ansC_eq]
   refine (show GF _ _ _ _ ⟨[(2,.ref 2 0),(4,.ref 3 0)],[flat (d3++sD c4.del++d4),flat (b3++sD c4.bak++b4),ChDB c4 d3 d4 b3 b4 0 1,zcel]⟩ from ?_)
   have q43:=c43 c4.bak ⟨2,c4.exp,ByteArray.empty⟩ b3 b4 hok4.2.2.1 hok4.2.2.2
   unfold Pk.d at q43
   repeat' first | refine s_ ?_ | fail
   refine gCell 2 9 rfl rfl ?_ rfl rfl
   refine gJ (jn:=0) [1] (by exact rfl) q43 rfl (by decide) (fun b hb=>?_) ?_ rfl ?_ (fun b hb=>?_) ?_ ?_
   · rw [List.mem_singleton] at hb;subst hb
     exact Y11
   · show [_]=_
     exact Y3
   · show (_ && _)=true
     rw [refs_flat];rfl
   · rw [hm0];exact Nat.zero_le _
   · simp only [ChDB,rowV,List.set_cons_zero,List.set_cons_succ,nrefLM,PV.nrefs,PV.nref,nrefs_flat,List.drop_zero,List.all_cons,List.all_nil,Bool.or_true,Bool.true_and,Bool.and_true]<;>rfl
   · rintro q mm ⟨pre',post',g1,g2,rfl,rfl⟩ _
     have e1:∀ f:Nat→Nat,(List.take [1].length [flat (pre'++sD (sentL c4.bak ⟨2,c4.exp,ByteArray.empty⟩)++post')]).map (PV.rens f)=[flat (pre'++sD (sentL c4.bak ⟨2,c4.exp,ByteArray.empty⟩)++post')]:=fun f=>by
      show [PV.rens f (flat _)]=_
      rw [rens_flat]
     unfold stJ
     rw [e1]
     repeat' first | refine s_ ?_ | fail
     exact enj (mem':=[flat (d3++sD c4.del++d4),flat (pre'++sD (sentL c4.bak ⟨2,c4.exp,ByteArray.empty⟩)++post')]) (by exact rfl) ⟨d3,d4,pre',post',⟨hok4.1,hok4.2.1,g1,g2⟩,rfl,rfl⟩ (.cons (CSub_flat _ _) (.cons (CSub_flat _ _) .nil))
 have hfd:=hc.del
 have hfe:=hc.ear
 obtain ⟨hk1,hk2,hk3,hk4⟩:(∀ x ∈ d1,x.cells.length=1)∧(∀ x ∈ d2,x.cells.length=1)∧(∀ x ∈ b1,x.cells.length=1)∧(∀ x ∈ b2,x.cells.length=1):=hok
 unfold rcvG at hn'
 generalize deP s=q at hn' ⊢
 refine d_ (fun hb=>?_) (fun hb=>?_)
 · refine kp [(2,.ref 2 0),(4,.ref 3 0),(5,.ref 4 0)] ⟨rfl,rfl,rfl,trivial⟩ ?_
   repeat' first | refine s_ ?_ | refine bs (by exact rfl) ?_ | fail
   refine gCell 2 7 rfl rfl ?_ rfl rfl
   refine gApG (pre:=d1) (xs:=sD c.del) (post:=d2) (ys:=[.str q.bo]) rfl rfl rfl rfl rfl (by rw [hm0];exact Nat.zero_le _) (by exact J3) rfl (by simp) (row_k hk1 (sD_k _) hk2) (by simp [D.cells]) (by decide) u35 inf9 rfl (by simp [Value.cells,Value.oneCell']) (by rw [sD_len];unfold lim;simp;omega) (by rw [sD_len];unfold lim;simp;omega) (Nat.le_of_ble_eq_true rfl) (fun a b hab=>?_)
   rw [← List.length_append,sD_snoc]
   rw [sD_snoc] at hab
   repeat' first | refine s_ ?_ | fail
   have hF0:dueN c.ear.length (delC c q)=dueN (delC c q).ear.length (delC c q):=rfl
   rw [if_pos hb,hF0] at hn'
   generalize hFe:dueN (delC c q).ear.length (delC c q)=F at hn'
   have hf1:(delC c q).Few:=delC_few hc q (by omega)
   have hl1:(delC c q).del.length + (delC c q).ear.length≤900000:=by
    show (c.del++[q.bo]).length + c.ear.length≤900000
    rw [List.length_append];simp;omega
   have hbk1:(delC c q).bak=c.bak:=rfl
   refine kp [(2,.ref 2 0),(4,.ref 3 0)] ⟨rfl,rfl,trivial⟩ ?_
   refine (show GF _ _ _ _ ⟨_,[flat (a++sD (delC c q).del++b),flat (b1++sD (delC c q).bak++b2),ChDB (delC c q) a b b1 b2 0 1,zcel,[.d (.int .i64 q.kd),.d (.int .i64 q.nu),.d (.str q.bo)]]⟩ from ?_)
   generalize delC c q=c2 at hf1 hl1 hFe hbk1 hab ⊢
   refine gLo (fun x:Ch×List D×List D=>⟨[(2,.ref 2 0),(4,.ref 3 0)],[flat (x.2.1++sD x.1.del++x.2.2),flat (b1++sD x.1.bak++b2),ChDB x.1 x.2.1 x.2.2 b1 b2 0 1,zcel]⟩) (fun x=>x.1.ear.length) (fun x=>(∀ y ∈ x.2.1,y.cells.length=1)∧(∀ y ∈ x.2.2,y.cells.length=1)∧x.1.Few∧x.1.del.length + x.1.ear.length≤900000∧dueN x.1.ear.length x.1=F) (c2,a,b) ⟨fun x hx=>hab x (List.mem_append_left _ (List.mem_append_left _ hx)),fun x hx=>hab x (List.mem_append_right _ hx),hf1,hl1,hFe⟩ ?_ (fun x hx Q'' hn he hr hp=>?_)
   · exact Le_of (by rw [hm0];exact Nat.zero_le _) (.cons (CSub_flat _ _) (.cons (CSub_flat _ _) (.cons CSa (.cons CSa .nil)))) SSa
   obtain ⟨c3,a3,b3⟩:=x
   obtain ⟨ha3,hb3,hf3,hl3,hF3⟩:(∀ y ∈ a3,y.cells.length=1)∧(∀ y ∈ b3,y.cells.length=1)∧c3.Few∧c3.del.length + c3.ear.length≤900000∧dueN c3.ear.length c3=F:=hx
   refine (show GF _ _ _ _ ⟨[(2,.ref 2 0),(4,.ref 3 0)],[flat (a3++sD c3.del++b3),flat (b1++sD c3.bak++b2),ChDB c3 a3 b3 b1 b2 0 1,zcel]⟩ from ?_)
   repeat' first | refine s_ ?_ | fail
   obtain ⟨e,hie⟩:∃ e:Pk,(decide (((pD c3.ear).length:Int) > 0))=true→(pD c3.ear)[0]? = some e.d∧∃ r,c3.ear=e :: r:=by
    cases hq:c3.ear with
    | nil=>exact ⟨zeroP,fun h=>by simp [pD] at h⟩
    | cons e r=>exact ⟨e,fun _=>⟨rfl,r,rfl⟩⟩
   unfold Pk.d at hie
   refine Z9 ?_
   iterate 7 refine ov (hc:=?_)
   refine oig (m:=3) _ (hd:=fun h=>⟨Int.le_refl 0,(hie h).1,rfl⟩) (hc:=?_)
   iterate 6 refine ov (hc:=?_)
   refine Z7 ?_
   repeat' first | refine s_ ?_ | fail
   refine d_ (fun hb=>?_) (fun hb=>?_)
   · rw [Bool.and_eq_true] at hb
     obtain ⟨hi0,r,her⟩:=hie hb.1
     have hie1:e.nu=c3.exp:=by have:=hb.2;simpa using this
     clear hie
     repeat' first | refine s_ ?_ | fail
     refine kp [(2,.ref 2 0),(4,.ref 3 0)] ⟨rfl,rfl,trivial⟩ ?_
     refine gTab (A:=Pq 1 (sD (c3.del++[e.bo]))) (m1:=fun a=>[flat (a.1.1++sD (c3.del++[e.bo])++a.1.2),flat (b1++sD c3.bak++b2),(ChDB c3 a3 b3 b1 b2 0 1).set 7 .undef,zcel]) (m2:=fun a=>[flat (a.1.1++sD (c3.del++[e.bo])++a.1.2),flat (b1++sD c3.bak++b2),ChDB { c3 with del:=c3.del++[e.bo] } a.1.1 a.1.2 b1 b2 0 1,zcel])
      8 10 [(1,8)] (PV.nref 0) [(0,60,.ref 2 7),(1,61,.rsl 0 (rlo 1 a3 (sD c3.del) b3) (sD c3.del).length 1),(2,62,.ref 2 6),(3,63,.d (.sl (pD c3.ear))),(4,64,.d (.ptr (.agg [.int .i64 e.kd,.int .i64 e.nu,.str e.bo]))),(5,65,.d (.ptr (.str e.bo))),(6,66,.d (.str e.bo)),(7,67,.osl 1 [.str e.bo])]
      [(9,69,.ref 2 7)] 68 (fun a=>rowV 0 1 a.1.1 (sD (c3.del++[e.bo])) a.1.2) ⟨([],[]),row_k (by simp) (sD_k _) (by simp)⟩ [0,1,2,3,4,5,6,7,9,10]
      (by exact rfl) mixed (by kernel_rfl) rfl (by kernel_rfl) rfl rfl rfl rfl rfl rfl rfl (by exact rfl) (fun rest Q' hQ=>?_) (fun a=>?_) rfl (by kernel_rfl) (fun a h=>absurd h (by decide)) (fun a=>?_)
     · refine gCell 2 7 rfl rfl ?_ rfl rfl
       exact gApG (pre:=a3) (xs:=sD c3.del) (post:=b3) (ys:=[.str e.bo]) rfl rfl rfl rfl rfl (by rw [hm0];exact Nat.zero_le _) (by exact J3) rfl (by simp) (row_k ha3 (sD_k _) hb3) (by simp [D.cells]) (by decide) u35 inf9 rfl (by simp [Value.cells,Value.oneCell']) (by rw [sD_len];unfold lim;simp;omega) (by rw [sD_len];unfold lim;simp;omega) (Nat.le_of_ble_eq_true rfl) (fun a b hab=>by rw [sD_snoc] at hab;rw [← List.length_append,sD_snoc];exact hQ ⟨(a,b),hab⟩)
     · refine ⟨?_,?_,?_,?_,?_,?_,?_,?_,?_,?_,trivial⟩
       iterate 4 exact ta_
       · exact ti (by exact rfl) (by exact rfl) rfl rfl (by kernel_rfl) (by exact fun _=>rfl) ⟨Int.le_refl 0,hi0,rfl⟩ (Nat.le_of_ble_eq_true rfl)
       iterate 2 exact ta_
       · exact tal (by exact rfl) (by exact rfl) rfl rfl (by kernel_rfl) (by exact fun _=>rfl)
       · exact tb (by exact rfl) (by exact rfl) rfl rfl (by kernel_rfl) (by kernel_rfl) (by exact fun _=>rfl)
       · exact ts (by exact rfl) (by exact rfl) rfl (by kernel_rfl) (by exact fun _=>rfl)
     · repeat' first | refine s_ ?_ | fail
       refine kp [(71,.d (.sl (pD c3.ear))),(2,.ref 2 0),(4,.ref 3 0)] ⟨rfl,rfl,rfl,trivial⟩ ?_
       have hl4:(pD c3.ear).length=r.length + 1:=by rw [her,pD_len];rfl
       refine qu (by exact rfl) ?_ ?_
       · exact ⟨⟨by omega,by omega⟩,pD_k _⟩
       rw [show List.drop (Int.toNat 1) (pD c3.ear)=pD r by rw [her];rfl]
       repeat' first | refine s_ ?_ | fail
       have hF4:dueN r.length (delC { c3 with ear:=r } e)=F:=by
        rw [← hF3,her]
        show _=dueN (r.length + 1) c3
        conv=>rhs;unfold dueN
        rw [her]
        show _=(if _ then _ else _)
        rw [if_pos (by simpa using hie1)]
       have hrl:c3.ear.length=r.length + 1:=by rw [her];rfl
       have hfd3:=hf3.del
       have hrr:r.length≤1000000:=by have:=hf3.ear;omega
       have hf6:(delC { c3 with ear:=r } e).Few:=delC_few (c:={ c3 with ear:=r }) { una:=hf3.una,wai:=hf3.wai,ear:=hrr,del:=hf3.del,tos:=hf3.tos,bak:=hf3.bak } e (by show c3.del.length < _;omega)
       refine toL (hn _ (delC { c3 with ear:=r } e,a.1.1,a.1.2) ⟨fun x hx=>a.2 x (List.mem_append_left _ (List.mem_append_left _ hx)),fun x hx=>a.2 x (List.mem_append_right _ hx),hf6,?_,hF4⟩ ?_ ?_)
       · show (c3.del++[e.bo]).length + r.length≤900000
         rw [List.length_append];simp;omega
       · show r.length < c3.ear.length
         omega
       · exact Le_of (by rw [hm0];exact Nat.zero_le _) (.cons (CSub_flat _ _) (.cons (CSub_flat _ _) (.cons CSa (.cons CSa .nil)))) SSa
   · have hF5:dueN c3.ear.length c3=c3:=by
      cases hq:c3.ear with
      | nil=>rfl
      | cons e2 r2=>
       show dueN (r2.length + 1) c3=c3
       unfold dueN
       rw [hq]
       show (if _ then _ else _)=_
       have hpos:decide (((pD c3.ear).length:Int) > 0)=true:=by rw [hq,pD_len];simp
       obtain ⟨_,r,her⟩:=hie hpos
       rw [hq] at her
       injection her with h1 h2
       rw [hpos,Bool.true_and] at hb
       rw [if_neg]
       rw [h1]
       intro h
       rw [h] at hb;cases hb
     rw [hF5] at hF3
     subst hF3
     repeat' first | refine s_ ?_ | fail
     refine Z15 ?_
     repeat' first | refine s_ ?_ | fail
     exact toL (hn' _ (c3,a3,b3,b1,b2) ⟨⟨ha3,hb3,hk3,hk4⟩,rfl⟩ (Le_0 hm0 (.cons (CSub_flat _ _) (.cons (CSub_flat _ _) (.cons CSa (.cons CSa .nil)))) SSa))
 rw [if_neg (by rw [hb];decide)] at hn'
 refine kp [(2,.ref 2 0),(4,.ref 3 0),(5,.ref 4 0)] ⟨rfl,rfl,rfl,trivial⟩ ?_
 refine fz true (by exact rfl) ?_ (by rw [hm0];exact Nat.zero_le _) (by show (_ && (_ && _))=true;rw [refs_flat,refs_flat];rfl)
 repeat' first | refine s_ ?_ | fail
 refine d_ (fun hb=>?_) (fun hb=>?_)
 rotate_left
 · rw [if_neg (by rw [hb];decide)] at hn'
   refine kp [(2,.ref 2 0),(4,.ref 3 0)] ⟨rfl,rfl,trivial⟩ ?_
   repeat' first | refine s_ ?_ | fail
   exact toL (hn' _ (c,d1,d2,b1,b2) ⟨⟨hk1,hk2,hk3,hk4⟩,rfl⟩ (Le_0 hm0 (.cons (CSub_flat _ _) (.cons (CSub_flat _ _) (.cons CSa (.cons CSa .nil)))) SSa))
 rw [if_pos hb] at hn'
 refine kp [(2,.ref 2 0),(4,.ref 3 0),(5,.d (.ptr (.agg [.int .i64 q.kd,.int .i64 q.nu,.str q.bo])))] ⟨rfl,rfl,rfl,trivial⟩ ?_
 repeat' first | refine s_ ?_ | fail
 refine gLo (fun x:List Pk×Bool×Nat=>⟨[(2,.ref 2 0),(4,.ref 3 0),(5,.d (.ptr (.agg [.int .i64 q.kd,.int .i64 q.nu,.str q.bo]))),(7,.osl 3 (pD x.1)),(8,.d (.bool x.2.1)),(9,.d (.int .i64 (x.2.2:Int)))],[flat (d1++sD c.del++d2),flat (b1++sD c.bak++b2),ChDB c d1 d2 b1 b2 0 1,zcel]⟩) (fun x=>c.ear.length - x.2.2) (fun x=>InsI c.ear q x) ([],false,0) ⟨Nat.zero_le _,Nat.zero_le _,rfl⟩ ?_ (fun x hx Q'' hn he hr hp=>?_)
 · exact Le_of (by rw [hm0];exact Nat.zero_le _) (.cons (CSub_flat _ _) (.cons (CSub_flat _ _) (.cons CSa (.cons CSa .nil)))) SSa
 obtain ⟨acc,dn,k⟩:=x
 have hx':=hx
 obtain ⟨hk,hal,hins⟩:k≤c.ear.length∧acc.length≤k + (if dn=true then 1 else 0)∧insF q c.ear=acc++(if dn=true then c.ear.drop k else insF q (c.ear.drop k)):=hx
 have hal2:acc.length≤k + 1:=by cases dn<;>simp at hal<;>omega
 refine (show GF _ _ _ _ ⟨[(2,.ref 2 0),(4,.ref 3 0),(5,.d (.ptr (.agg [.int .i64 q.kd,.int .i64 q.nu,.str q.bo]))),(7,.osl 3 (pD acc)),(8,.d (.bool dn)),(9,.d (.int .i64 (k:Int)))],[flat (d1++sD c.del++d2),flat (b1++sD c.bak++b2),ChDB c d1 d2 b1 b2 0 1,zcel]⟩ from ?_)
 repeat' first | refine s_ ?_ | fail
 refine d_ (fun hb=>?_) (fun hb=>?_)
 · have hlt:k < c.ear.length:=by have:=oR hb;rw [pD_len] at this;omega
   obtain ⟨e,hge⟩:∃ e,c.ear[k]? = some e:=⟨_,gE hlt⟩
   have hpe:(pD c.ear)[k]? = some (.agg [.int .i64 e.kd,.int .i64 e.nu,.str e.bo]):=pD_get hge
   repeat' first | refine s_ ?_ | fail
   refine kp [(2,.ref 2 0),(4,.ref 3 0),(5,.d (.ptr (.agg [.int .i64 q.kd,.int .i64 q.nu,.str q.bo]))),(7,.osl 3 (pD acc)),(8,.d (.bool dn)),(9,.d (.int .i64 (k:Int)))] ⟨rfl,rfl,rfl,rfl,rfl,rfl,trivial⟩ ?_
   refine Z9 ?_
   iterate 3 refine ov (hc:=?_)
   refine oi (hd:=hpe) (hc:=?_)
   iterate 5 refine ov (hc:=?_)
   refine Z7 ?_
   repeat' first | refine s_ ?_ | fail
   refine gCutF (α:=Bool) (fun z=>⟨[(2,.ref 2 0),(4,.ref 3 0),(5,.d (.ptr (.agg [.int .i64 q.kd,.int .i64 q.nu,.str q.bo]))),(7,.osl 3 (pD acc)),(8,.d (.bool z)),(9,.d (.int .i64 (k:Int)))],[flat (d1++sD c.del++d2),flat (b1++sD c.bak++b2),ChDB c d1 d2 b1 b2 0 1,zcel]⟩) (fun z=>z=(dn || e.nu == q.nu)) (fun Q3 hn3 he3 hr3 hp3=>?_) (fun z hz=>?_)
   · refine d_ (fun hb=>?_) (fun hb=>?_)
     · repeat' first | refine s_ ?_ | fail
       exact toL (hn3 _ true (by rw [hb,Bool.or_true]) le_of)
     · repeat' first | refine s_ ?_ | fail
       exact toL (hn3 _ dn (by rw [hb,Bool.or_false]) le_of)
   repeat' first | refine s_ ?_ | fail
   refine Z9 ?_
   iterate 6 refine ov (hc:=?_)
   refine oig (m:=3) _ (hd:=fun _=>⟨by omega,hpe,rfl⟩) (hc:=?_)
   iterate 6 refine ov (hc:=?_)
   refine Z7 ?_
   repeat' first | refine s_ ?_ | fail
   refine gCutF (α:=List Pk×Bool) (fun y=>⟨[(2,.ref 2 0),(4,.ref 3 0),(5,.d (.ptr (.agg [.int .i64 q.kd,.int .i64 q.nu,.str q.bo]))),(7,.osl 3 (pD y.1)),(8,.d (.bool y.2)),(9,.d (.int .i64 (k:Int)))],[flat (d1++sD c.del++d2),flat (b1++sD c.bak++b2),ChDB c d1 d2 b1 b2 0 1,zcel]⟩) (fun y=>InsI c.ear q (y.1++[e],y.2,k + 1)) (fun Q3 hn3 he3 hr3 hp3=>?_) (fun y hy=>?_)
   · refine d_ (fun hb=>?_) (fun hb=>?_)
     · repeat' first | refine s_ ?_ | refine bs (by exact rfl) ?_ | refine ap (by exact rfl) ?_ (hl:=by simp only [pD_len,lim,List.length_cons,List.length_nil];omega) (hB:=by simp only [pD_len,lim,List.length_cons,List.length_nil];omega) | fail
       rw [show pD acc++[.agg [.int .i64 q.kd,.int .i64 q.nu,.str q.bo]]=pD (acc++[q]) by unfold pD;rw [List.map_append];rfl]
       exact toL (hn3 _ (acc++[q],true) (insI_put hx' hge hz hb) le_of)
     · repeat' first | refine s_ ?_ | fail
       exact toL (hn3 _ (acc,z) (insI_go hx' hge hz hb) le_of)
   · obtain ⟨acc2,z2⟩:=y
     have hy':InsI c.ear q (acc2++[e],z2,k + 1):=hy
     have hal3:acc2.length≤k + 1:=by
      have h1:=hy'.2.1
      simp only [List.length_append,List.length_cons,List.length_nil] at h1
      cases z2<;>simp at h1<;>omega
     refine (show GF _ _ _ _ ⟨[(2,.ref 2 0),(4,.ref 3 0),(5,.d (.ptr (.agg [.int .i64 q.kd,.int .i64 q.nu,.str q.bo]))),(7,.osl 3 (pD acc2)),(8,.d (.bool z2)),(9,.d (.int .i64 (k:Int)))],[flat (d1++sD c.del++d2),flat (b1++sD c.bak++b2),ChDB c d1 d2 b1 b2 0 1,zcel]⟩ from ?_)
     repeat' first | refine s_ ?_ | refine bs (by exact rfl) ?_ | refine el (by exact rfl) hpe ?_ | refine ap (by exact rfl) ?_ (hl:=by simp only [pD_len,lim,List.length_cons,List.length_nil];omega) (hB:=by simp only [pD_len,lim,List.length_cons,List.length_nil];omega) | fail
     rw [show pD acc2++[.agg [.int .i64 e.kd,.int .i64 e.nu,.str e.bo]]=pD (acc2++[e]) by unfold pD;rw [List.map_append];rfl]
     rw [show IntKind.i64.wrap ((k:Int) + 1)=((k + 1:Nat):Int) by rw [wrap_i64 (by omega) (by omega)];rfl]
     exact toL (hn _ (acc2++[e],z2,k + 1) hy' (by dsimp only;omega) (Le_0 hm0 (.cons (CSub_flat _ _) (.cons (CSub_flat _ _) (.cons CSa (.cons CSa .nil)))) SSa))
 · have hle:c.ear.length≤k:=by have:=of_decide_eq_false hb;rw [pD_len] at this;omega
   rw [List.drop_eq_nil_of_le hle] at hins
   repeat' first | refine s_ ?_ | fail
   refine Z15 ?_
   repeat' first | refine s_ ?_ | fail
   cases dn with
   | true=>
    refine Z1 ?_
    repeat' first | refine s_ ?_ | fail
    have hins':insF q c.ear=acc:=by rw [hins];simp
    rw [hins'] at hn'
    exact toL (hn' _ ({ c with ear:=acc },d1,d2,b1,b2) ⟨⟨hk1,hk2,hk3,hk4⟩,rfl⟩ (Le_0 hm0 (.cons (CSub_flat _ _) (.cons (CSub_flat _ _) (.cons CSa (.cons CSa .nil)))) SSa))
   | false=>
    refine Z16 ?_
    repeat' first | refine s_ ?_ | refine bs (by exact rfl) ?_ | refine ap (by exact rfl) ?_ (hl:=by simp only [pD_len,lim,List.length_cons,List.length_nil];omega) (hB:=by simp only [pD_len,lim,List.length_cons,List.length_nil];omega) | fail
    rw [show pD acc++[.agg [.int .i64 q.kd,.int .i64 q.nu,.str q.bo]]=pD (acc++[q]) by unfold pD;rw [List.map_append];rfl]
    repeat' first | refine s_ ?_ | fail
    have hins':insF q c.ear=acc++[q]:=by rw [hins];rfl
    rw [hins'] at hn'
    exact toL (hn' _ ({ c with ear:=acc++[q] },d1,d2,b1,b2) ⟨⟨hk1,hk2,hk3,hk4⟩,rfl⟩ (Le_0 hm0 (.cons (CSub_flat _ _) (.cons (CSub_flat _ _) (.cons CSa (.cons CSa .nil)))) SSa))
end
section
theorem yo (L kk:Nat) (kl:List (Nat×Nat)) (ws:List Nat) (ms:List (List (List PV))) (ts:List Nat) (es0:List (Nat×Nat×PV)) {n:Nat} {S0:Reg} {O0:Owns} {w0:World} {m0 Bs:List Nat} {ds:List Deferred} {fr:List Fr} {Q:Exit→GS→Prop} {id:Nat} {ops:Array Oper} {sl base:List (Nat×PV)} {mem:List (List PV)} (hn:sizeIs ops.toList (L + 1)=true:=by exact rfl) (hb:(sl.filter fun x=>!ts.contains x.1)=base:=by exact rfl) (he:es0.all (fun e=>Nat.ble (L + 1) e.1 && (match sl.lookup e.2.1 with | some _=>true | none=>false))=true:=by rfl) (he2:∀ e ∈ es0,sl.lookup e.2.1=some e.2.2) (hm0:ms.head? = some mem:=by rfl) (hdep:((List.range ops.size).all fun i=>(depsOf ops i).all fun d=>Nat.blt d i)=true:=by kernel_rfl) (hanc:((List.range L).all fun i=>memN i (ancs ops kk (depsOf ops L)))=true:=by kernel_rfl) (hc:COy L (L + 1) kl ⟨Tryd.prog,n,S0,O0,w0,m0,Bs,ds⟩ fr ops base ws ms 0 es0 Q):GF ⟨Tryd.prog,n,S0,O0,w0,m0,Bs,ds⟩ fr (.code (.region id ops true)) Q ⟨sl,mem⟩:=gOpenY L kk kl ws ms ts hn (beq_yes _) hb he he2 mixed hm0 hdep hanc hc
variable {n L nn i j t:Nat} {S0:Reg} {O0:Owns} {w0:World} {m0 Bs ws:List Nat} {ds:List Deferred} {fr:List Fr} {Q:Exit→GS→Prop} {kl:List (Nat×Nat)} {ops:Array Oper} {base pre:List (Nat×PV)} {ms:List (List (List PV))} {es es':List (Nat×Nat×PV)} {ob:List (Bool×Bool)}
theorem yv {p:PV} (hs:seeY nn kl ops.toList i es base=some pre:=by exact rfl) (hj:nth nums (i + 1)=some j:=by exact rfl) (h:∀ rest X,E.step tab ops.toList n i ⟨pre++rest,X⟩=some (ob,⟨(t,p) :: (pre++rest),X⟩):=by exact fun _ _=>rfl) (hes:snocK es (i,t,p) some=some es':=by exact rfl) (hc:COy L nn kl ⟨Tryd.prog,n,S0,O0,w0,m0,Bs,ds⟩ fr ops base ws ms j es' Q) (hi:memN i ws=false:=by rfl) (ho:Obl ob:=by repeat first | exact Obl.nil | refine Obl.same ?_ | refine Obl.imp (fun h=>by simp_all) ?_):COy L nn kl ⟨Tryd.prog,n,S0,O0,w0,m0,Bs,ds⟩ fr ops base ws ms i es Q:=yAny hs hj hes hi hc fun rest X _ hg=>toO (gv tabOk (h rest X) (ofO hg) ho)
theorem yi {m:Nat} {xs:List D} {ix:Int} {d:D} (hs:seeY nn kl ops.toList i es base=some pre:=by exact rfl) (hj:nth nums (i + 1)=some j:=by exact rfl) (h:∀ rest,ixs tab ops.toList n i (pre++rest)=some (t,none,ob,xs,ix,m):=by exact fun _=>rfl) (hd:xs[ix.toNat]? = some d) (hes:snocK es (i,t,.d (.ptr d)) some=some es':=by exact rfl) (hc:COy L nn kl ⟨Tryd.prog,n,S0,O0,w0,m0,Bs,ds⟩ fr ops base ws ms j es' Q) (h0:0≤ix:=by omega) (hn:d.cells.length=m:=by first | rfl | simp [D.cells]) (hm:0 < m:=by decide) (hi:memN i ws=false:=by rfl) (ho:Obl ob:=by repeat first | exact Obl.nil | refine Obl.same ?_ | refine Obl.imp (fun h=>by simp_all) ?_):COy L nn kl ⟨Tryd.prog,n,S0,O0,w0,m0,Bs,ds⟩ fr ops base ws ms i es Q:=yAny hs hj hes hi hc fun rest X _ hg=>gI d tabOk (h rest) (fun _=>⟨h0,hd,hn⟩) hm ho hg
theorem yb {k:Nat} {xs:List D} (hs:seeY nn kl ops.toList i es base=some pre:=by exact rfl) (hj:nth nums (i + 1)=some j:=by exact rfl) (h:∀ rest,bss tab ops.toList n i (pre++rest)=some (t,k,xs):=by exact fun _=>rfl) (hes:snocK es (i,t,.osl k xs) some=some es':=by exact rfl) (hc:COy L nn kl ⟨Tryd.prog,n,S0,O0,w0,m0,Bs,ds⟩ fr ops base ws ms j es' Q) (hk0:0 < k:=by decide) (hk:∀ d ∈ xs,d.cells.length=k:=by simp [D.cells]) (hi:memN i ws=false:=by rfl):COy L nn kl ⟨Tryd.prog,n,S0,O0,w0,m0,Bs,ds⟩ fr ops base ws ms i es Q:=yAny hs hj hes hi hc fun rest X _ hg=>gB tabOk (h rest) hk0 hk hg
theorem yp {u k b:Nat} {xs ys:List D} (hs:seeY nn kl ops.toList i es base=some pre:=by exact rfl) (hj:nth nums (i + 1)=some j:=by exact rfl) (h:∀ rest,aps tab ops.toList n i (pre++rest)=some (t,u,k,b,xs,ys):=by exact fun _=>rfl) (hes:snocK es (i,t,.osl k (xs++ys)) some=some es':=by exact rfl) (hc:COy L nn kl ⟨Tryd.prog,n,S0,O0,w0,m0,Bs,ds⟩ fr ops base ws ms j es' Q) (hx:tkB kl es u i=true:=by rfl) (hk0:0 < k:=by decide) (hne:ys ≠ []:=by simp) (hk:∀ y ∈ ys,y.cells.length=k:=by simp [D.cells]) (hl:xs.length + ys.length≤lim:=by simp only [lim,List.length_cons,List.length_nil,List.length_append,List.length_map];omega) (hB:(xs.length + ys.length) * b≤lim:=by simp only [lim,List.length_cons,List.length_nil,List.length_append,List.length_map];omega) (hi:memN i ws=false:=by rfl):COy L nn kl ⟨Tryd.prog,n,S0,O0,w0,m0,Bs,ds⟩ fr ops base ws ms i es Q:=yTake hs hj hes hi hx hc fun rest X _ hg=>gA tabOk (h rest) hk0 hne hk hl hB hg
theorem yvt {u:Nat} {p q:PV} (hs:seeY nn kl ops.toList i es base=some pre:=by exact rfl) (hj:nth nums (i + 1)=some j:=by exact rfl) (h:∀ rest X,E.step tab ops.toList n i ⟨pre++rest,X⟩=some (ob,⟨(t,p) :: (u,q) :: (pre++rest),X⟩):=by exact fun _ _=>rfl) (hes:snocK es (i,t,p) some=some es':=by exact rfl) (hc:COy L nn kl ⟨Tryd.prog,n,S0,O0,w0,m0,Bs,ds⟩ fr ops base ws ms j es' Q) (hx:tkB kl es u i=true:=by rfl) (hi:memN i ws=false:=by rfl) (ho:Obl ob:=by repeat first | exact Obl.nil | refine Obl.same ?_ | refine Obl.imp (fun h=>by simp_all) ?_):COy L nn kl ⟨Tryd.prog,n,S0,O0,w0,m0,Bs,ds⟩ fr ops base ws ms i es Q:=yTake hs hj hes hi hx hc fun rest X _ hg=>toO (gv tabOk (h rest X) (ofO hg) ho)
theorem yl {sl:List (Nat×PV)} {mem:List (List PV)} {s2:GS} (hi:Nat.beq i L=true:=by exact rfl) (hp:(es.filter fun x=>(kl.lookup x.1).isNone).map (·.2)++base=sl:=by exact rfl) (hm:ms[ws.length]? = some mem:=by rfl) (h:E.step tab ops.toList n L ⟨sl,mem⟩=some (ob,s2):=by exact rfl) (hc:GF ⟨Tryd.prog,n,S0,O0,w0,m0,Bs,ds⟩ fr (.leave .normal) Q s2) (hS:ws.all (fun w=>Nat.blt w L)=true:=by rfl) (hn:nodupB (es.map (·.2.1))=true:=by rfl) (hb:base.all (fun x=>!(es.map (·.2.1)).contains x.1)=true:=by rfl) (ho:Obl ob:=by repeat first | exact Obl.nil | refine Obl.same ?_ | refine Obl.imp (fun h=>by simp_all) ?_):COy L nn kl ⟨Tryd.prog,n,S0,O0,w0,m0,Bs,ds⟩ fr ops base ws ms i es Q:=
 yEnd hi hp hS hm (fun _ hg=>toO (gv tabOk h (ofO hg) ho)) hc hn hb
structure Ac where
 k:Int
 b:Bool
 ix:Int
 at_:Int
def Ac.d (a:Ac):D:=acD a.k a.b a.ix a.at_
def aD (l:List Ac):List D:=l.map Ac.d
theorem aD_len (l:List Ac):(aD l).length=l.length:=List.length_map ..
theorem aD_get {l:List Ac} {q:Ac} (h:l[i]? = some q):(aD l)[i]? = some (.agg [.int .i64 q.k,.bool q.b,.int .i64 q.ix,.int .i64 q.at_]):=by unfold aD;rw [List.getElem?_map,h];rfl
set_option maxRecDepth 100000 in
theorem c22 (l:List Ac) (hl:l.length≤1000000):Pf Tryd.prog 22 [.sl (aD l)] (.d (.sl (aD l))):=by
 refine pfb Tryd.func22 Tryd.ntmps22 Tryd.results22 (fun S0 O0 w0 m0 hm0=>?_)
 repeat' first | refine s_ ?_ | fail
 refine gLo (fun x:Nat=>⟨[(0,.d (.sl (aD l))),(3,.osl 4 (aD (l.take x))),(4,.d (.int .i64 (x:Int)))],[]⟩) (fun x=>l.length - x) (fun x=>x≤l.length) 0 (Nat.zero_le _) ?_ (fun x hx Q' hn he hr hp=>?_)
 · exact Le_of (by rw [hm0];exact Nat.zero_le _) .nil SSa
 repeat' first | refine s_ ?_ | fail
 refine d_ (fun hb=>?_) (fun hb=>?_)
 · have hlt:x < l.length:=by have:=oR hb;rw [aD_len] at this;omega
   obtain ⟨e,hge⟩:∃ e,l[x]? = some e:=⟨_,gE hlt⟩
   have hpe:=aD_get hge
   have htk:aD (l.take x)++[.agg [.int .i64 e.k,.bool e.b,.int .i64 e.ix,.int .i64 e.at_]]=aD (l.take (x + 1)):=by
    rw [List.take_add_one,hge];unfold aD;rw [List.map_append];rfl
   have htl:(aD (l.take x)).length≤1000000:=by rw [aD_len,List.length_take];omega
   repeat' first | refine s_ ?_ | fail
   refine kp [(0,.d (.sl (aD l))),(3,.osl 4 (aD (l.take x))),(4,.d (.int .i64 (x:Int)))] ⟨rfl,rfl,rfl,trivial⟩ ?_
   refine yo 24 1 [(25,0),(0,23)] [] [[]] (3 :: [11,12,13,14,15,16,17,18,19,20,21,22,23,24,25,26,27,28,29,30,31,32,33,34]) [(25,3,.osl 4 (aD (l.take x)))] (he2:=fun e he=>by rw [List.mem_singleton] at he;subst he;rfl) (hc:=?_)
   refine yvt (hc:=?_)
   iterate 2 refine yv (hc:=?_)
   refine yi (hd:=hpe) (hc:=?_)
   iterate 4 refine yv (hc:=?_)
   refine yi (hd:=hpe) (hc:=?_)
   iterate 4 refine yv (hc:=?_)
   refine yi (hd:=hpe) (hc:=?_)
   iterate 4 refine yv (hc:=?_)
   refine yi (hd:=hpe) (hc:=?_)
   iterate 3 refine yv (hc:=?_)
   refine yb (hc:=?_)
   refine yp (hl:=by unfold lim;simp only [List.length_cons,List.length_nil];omega) (hB:=by unfold lim;simp only [List.length_cons,List.length_nil];omega) (hc:=?_)
   refine yl (hc:=?_)
   rw [htk]
   repeat' first | refine s_ ?_ | fail
   rw [show IntKind.i64.wrap ((x:Int) + 1)=((x + 1:Nat):Int) by rw [wrap_i64 (by omega) (by omega)];rfl]
   exact toL (hn _ (x + 1) hlt (by omega) (Le_0 hm0 .nil SSa))
 · have hle:l.length≤x:=by have:=of_decide_eq_false hb;rw [aD_len] at this;omega
   rw [List.take_of_length_le hle]
   repeat' first | refine s_ ?_ | fail
   refine Z15 ?_
   repeat' first | refine s_ ?_ | fail
   exact e_
end
section
theorem zm (k:Nat) {n:Nat} {S0:Reg} {O0:Owns} {w0:World} {m0 Bs:List Nat} {ds:List Deferred} {fr:List Fr} {Q:Exit→GS→Prop} {kl:List (Nat×Nat)} {ops:Array Oper} {base pre:List (Nat×PV)} {ws:List Nat} {ms:List (List (List PV))} {i j t:Nat} {es es':List (Nat×Nat×PV)} {mem mem':List (List PV)} {ob:List (Bool×Bool)} {p:PV} (hm1:ms[k]? = some mem:=by rfl) (hm2:ms[k + 1]? = some mem':=by rfl) (hs:seeF kl ops.toList i es base=some pre:=by exact rfl) (hj:nth nums (i + 1)=some j:=by exact rfl) (h:∀ rest,E.step tab ops.toList n i ⟨pre++rest,mem⟩=some (ob,⟨(t,p) :: (pre++rest),mem'⟩):=by exact fun _=>rfl) (hes:snocK es (i,t,p) some=some es':=by exact rfl) (hc:COz kl ⟨Tryd.prog,n,S0,O0,w0,m0,Bs,ds⟩ fr ops base ws ms j es' Q) (hw:ws[k]? = some i:=by rfl) (hch:chained ops ws=true:=by rfl) (hnd:nodupB ws=true:=by rfl) (ho:Obl ob:=by repeat first | exact Obl.nil | refine Obl.same ?_ | refine Obl.imp (fun h=>by simp_all) ?_):COz kl ⟨Tryd.prog,n,S0,O0,w0,m0,Bs,ds⟩ fr ops base ws ms i es Q:=zPut k hs hj hes hw hch hnd hm1 hm2 hc fun rest _ hg=>toO (gv tabOk (h rest) (ofO hg) ho)
set_option maxRecDepth 100000 in
theorem c15 (c:Ch) (h2:c.ear.length≤1000000):Pf Tryd.prog 15 [c.d] (.d c.d):=by
 show Pf Tryd.prog 15 [(.agg [.int .i64 c.win,.int .i64 c.base,.int .i64 c.nxt,.sl (sD c.una),.sl (sD c.wai),.int .i64 c.exp,.sl (pD c.ear),.sl (sD c.del),.sl (sD c.tos),.sl (sD c.bak)])] (.d (.agg [.int .i64 c.win,.int .i64 c.base,.int .i64 c.nxt,.sl (sD c.una),.sl (sD c.wai),.int .i64 c.exp,.sl (pD c.ear),.sl (sD c.del),.sl (sD c.tos),.sl (sD c.bak)]))
 refine pfb Tryd.func15 Tryd.ntmps15 Tryd.results15 (fun S0 O0 w0 m0 hm0=>?_)
 repeat' (fail_if_success refine fz true (s:=⟨_,[_]⟩) (by exact rfl) ?_);first | refine s_ ?_ | fail
 refine Z8 ?_
 iterate 23 refine s_ ?_
 refine gq (p:=.agg [.d (.int .i64 c.win),.d (.int .i64 c.base),.d (.int .i64 c.nxt),.d (.sl (sD c.una)),.d (.sl (sD c.wai)),.d (.int .i64 c.exp),.nils,.d (.sl (sD c.del)),.d (.sl (sD c.tos)),.d (.sl (sD c.bak))]) (by exact rfl) (fun _ ht=>?_) ?_
 · exact Q_buildG (K:=⟨Tryd.prog,56,S0,O0,w0,m0,[],[]⟩) (cs':=[.d (.int .i64 c.win),.d (.int .i64 c.base),.d (.int .i64 c.nxt),.d (.sl (sD c.una)),.d (.sl (sD c.wai)),.d (.int .i64 c.exp),.nils,.d (.sl (sD c.del)),.d (.sl (sD c.tos)),.d (.sl (sD c.bak))]) (pl:=[(0,1),(1,1),(2,1),(3,1),(4,1),(5,1),(6,1),(7,1),(8,1),(9,1)]) (zs:=zcel) (ps:=[(0,.d (.int .i64 c.win)),(1,.d (.int .i64 c.base)),(2,.d (.int .i64 c.nxt)),(3,.d (.sl (sD c.una))),(4,.d (.sl (sD c.wai))),(5,.d (.int .i64 c.exp)),(7,.d (.sl (sD c.del))),(8,.d (.sl (sD c.tos))),(9,.d (.sl (sD c.bak)))]) u44 zr44 (by simp [Value.cells,Value.oneCell']) (by kernel_rfl) (by kernel_rfl) (by rfl) (by rfl) (by kernel_rfl) (.inr (by rfl)) ht
 repeat' first | refine s_ ?_ | fail
 refine gLo (fun x:Nat=>⟨[(1,.d (.ptr (.agg [.int .i64 c.win,.int .i64 c.base,.int .i64 c.nxt,.sl (sD c.una),.sl (sD c.wai),.int .i64 c.exp,.sl (pD c.ear),.sl (sD c.del),.sl (sD c.tos),.sl (sD c.bak)]))),(2,.ref 0 0),(3,.ref 1 0),(4,.d (.int .i64 (x:Int)))],[zcel,[.d (.int .i64 c.win),.d (.int .i64 c.base),.d (.int .i64 c.nxt),.d (.sl (sD c.una)),.d (.sl (sD c.wai)),.d (.int .i64 c.exp),.osl 3 (pD (c.ear.take x)),.d (.sl (sD c.del)),.d (.sl (sD c.tos)),.d (.sl (sD c.bak))]]⟩) (fun x=>c.ear.length - x) (fun x=>x≤c.ear.length) 0 (Nat.zero_le _) ?_ (fun x hx Q' hn he hr hp=>?_)
 · exact Le_of (by rw [hm0];exact Nat.zero_le _) (.cons CSa (.cons CSa .nil)) SSa
 repeat' first | refine s_ ?_ | fail
 refine d_ (fun hb=>?_) (fun hb=>?_)
 · have hlt:x < c.ear.length:=by have:=oR hb;rw [pD_len] at this;omega
   obtain ⟨e,hge⟩:∃ e,c.ear[x]? = some e:=⟨_,gE hlt⟩
   have hpe:(pD c.ear)[x]? = some (.agg [.int .i64 e.kd,.int .i64 e.nu,.str e.bo]):=pD_get hge
   have htk:pD (c.ear.take x)++[.agg [.int .i64 e.kd,.int .i64 e.nu,.str e.bo]]=pD (c.ear.take (x + 1)):=by
    rw [List.take_add_one,hge];unfold pD;rw [List.map_append];rfl
   have htl:(pD (c.ear.take x)).length≤1000000:=by rw [pD_len,List.length_take];omega
   repeat' first | refine s_ ?_ | fail
   refine kp [(1,.d (.ptr (.agg [.int .i64 c.win,.int .i64 c.base,.int .i64 c.nxt,.sl (sD c.una),.sl (sD c.wai),.int .i64 c.exp,.sl (pD c.ear),.sl (sD c.del),.sl (sD c.tos),.sl (sD c.bak)]))),(2,.ref 0 0),(3,.ref 1 0),(4,.d (.int .i64 (x:Int)))] ⟨rfl,rfl,rfl,rfl,trivial⟩ ?_
   refine zo [(1,22),(22,24)] [1,24] [[zcel,[.d (.int .i64 c.win),.d (.int .i64 c.base),.d (.int .i64 c.nxt),.d (.sl (sD c.una)),.d (.sl (sD c.wai)),.d (.int .i64 c.exp),.osl 3 (pD (c.ear.take x)),.d (.sl (sD c.del)),.d (.sl (sD c.tos)),.d (.sl (sD c.bak))]],[zcel,[.d (.int .i64 c.win),.d (.int .i64 c.base),.d (.int .i64 c.nxt),.d (.sl (sD c.una)),.d (.sl (sD c.wai)),.d (.int .i64 c.exp),.d (.sl (pD (c.ear.take x))),.d (.sl (sD c.del)),.d (.sl (sD c.tos)),.d (.sl (sD c.bak))]],[zcel,[.d (.int .i64 c.win),.d (.int .i64 c.base),.d (.int .i64 c.nxt),.d (.sl (sD c.una)),.d (.sl (sD c.wai)),.d (.int .i64 c.exp),.osl 3 (pD (c.ear.take (x + 1))),.d (.sl (sD c.del)),.d (.sl (sD c.tos)),.d (.sl (sD c.bak))]]] (hc:=?_)
   refine Z29 ?_
   refine zm 0 (hc:=?_)
   iterate 3 refine zv (hc:=?_)
   refine zi (hd:=hpe) (hc:=?_)
   iterate 5 refine zv (hc:=?_)
   refine zi (hd:=hpe) (hc:=?_)
   iterate 5 refine zv (hc:=?_)
   refine zi (hd:=hpe) (hc:=?_)
   iterate 3 refine zv (hc:=?_)
   refine zb (hc:=?_)
   refine zp (hl:=by unfold lim;simp only [List.length_cons,List.length_nil];omega) (hB:=by unfold lim;simp only [List.length_cons,List.length_nil];omega) (hc:=?_)
   rw [htk]
   refine Z29 ?_
   refine zst 1 (hc:=?_)
   refine Z34 ?_
   repeat' first | refine s_ ?_ | fail
   rw [show IntKind.i64.wrap ((x:Int) + 1)=((x + 1:Nat):Int) by rw [wrap_i64 (by omega) (by omega)];rfl]
   exact toL (hn _ (x + 1) hlt (by omega) (Le_0 hm0 (.cons CSa (.cons CSa .nil)) SSa))
 · have hle:c.ear.length≤x:=by have:=of_decide_eq_false hb;rw [pD_len] at this;omega
   rw [List.take_of_length_le hle]
   repeat' first | refine s_ ?_ | fail
   refine Z15 ?_
   iterate 2 refine s_ ?_
   refine gLe (s':=⟨[(2,.ref 0 0),(3,.ref 1 0)],[zcel,[.d (.int .i64 c.win),.d (.int .i64 c.base),.d (.int .i64 c.nxt),.d (.sl (sD c.una)),.d (.sl (sD c.wai)),.d (.int .i64 c.exp),.d (.sl (pD c.ear)),.d (.sl (sD c.del)),.d (.sl (sD c.tos)),.d (.sl (sD c.bak))]]⟩) (Le_0 hm0 (.cons CSa (.cons CSa .nil)) SSa) ?_ rfl
   repeat' first | refine s_ ?_ | fail
   exact e_
end
end Go.Proofs.YtoonleefemkalaaDoor
