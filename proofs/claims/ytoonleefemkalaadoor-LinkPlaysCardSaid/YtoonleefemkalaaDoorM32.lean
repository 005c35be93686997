import Derived.Test.YtoonleefemkalaaDoorM31
import Derived.ChangeKeysEq
import Derived.Test.YtoonleefemkalaaDoorM27
import Derived.Test.YtoonleefemkalaaDoorM24
/- Contracts of functions. Conditions: none. -/
set_option linter.unusedSimpArgs false
set_option linter.unusedVariables false
set_option maxRecDepth 20000
namespace Go.Proofs.YtoonleefemkalaaDoor
open Go Go.Proofs.YtoonleefemkalaaDoor.E
section
variable {c:Ch}
theorem cj4L {n:Nat} {S0:Reg} {O0:Owns} {w0:World} {m0 Bs:List Nat} {ds:List Deferred} {fr:List Fr} {Q:Exit→GS→Prop} {ops:Array Oper} {i:Nat} {l:List Nat} {sl:List (Nat×PV)} {x1 x2 x3 x4:List PV} {ex:List (List PV)} {t:Nat} {f:FuncId} {args:List PV} {c':Ch} {p:Pp} {r:PV} (h:cms ops.toList n i sl=some (t,f,args)) (hL:Lad S0 w0) (hc:MtL f args c r c') (hp:p.Ok)
 (hg:∀ p',p'.Ok→GF ⟨Tryd.prog,n,S0,O0,w0,m0,Bs,ds⟩ fr (.ops ops l) Q ⟨(t,r) :: sansL [5,6,7,8,9,10] sl,ChA c' p' 5 6 7 8 9 10 :: x1 :: x2 :: x3 :: x4 :: (ChR c' p'++ex)⟩) (hm0:m0.length≤5:=by omega) (hargs:args=PV.rens (fun b=>[0,5,6,7,8,9,10].getD b 0) args:=by rfl) (hra:PV.refsBs 7 args=true:=by rfl) (hr:r.ren (renN [0,5,6,7,8,9,10] (ChA c p 5 6 7 8 9 10 :: x1 :: x2 :: x3 :: x4 :: (ChR c p++ex)).length)=r:=by rfl) (hx:exB [5,6,7,8,9,10] [x1,x2,x3,x4]=true:=by rfl) (hex:exB [5,6,7,8,9,10] ex=true:=by rfl):GF ⟨Tryd.prog,n,S0,O0,w0,m0,Bs,ds⟩ fr (.ops ops (i :: l)) Q ⟨sl,ChA c p 5 6 7 8 9 10 :: x1 :: x2 :: x3 :: x4 :: (ChR c p++ex)⟩:=by
 refine gJX (jn:=1) [0,5,6,7,8,9,10] h (hc p hp).1 ((hc p hp).2 _ _ hL) hargs (by decide) (fun b hb=>?_) ?_ hra (ChM_refs c p) (fun b hb=>?_) ?_ ?_
 · have:b < 11:=by
    have h:∀ b ∈ [0,5,6,7,8,9,10],b < 11:=by decide
    exact h b hb
   have h7:(ChA c p 5 6 7 8 9 10 :: x1 :: x2 :: x3 :: x4 :: (ChR c p++ex)).length=11 + ex.length:=by simp [ChR];omega
   omega
 · rw [ChM_rens];rfl
 · have h1:5≤b:=by
    have h:∀ b ∈ [5,6,7,8,9,10],5≤b:=by decide
    exact h b hb
   exact Nat.le_trans hm0 h1
 · have h1:=nrefLM_ex [5,6,7,8,9,10] [0,5,6,7,8,9,10] ex 11 hex
   have h2:=nrefLM_ex [5,6,7,8,9,10] [0,5,6,7,8,9,10] [x1,x2,x3,x4] 1 hx
   have h3:=nrefLM_app [5,6,7,8,9,10] [0,5,6,7,8,9,10] ([x1,x2,x3,x4]) (ChR c p++ex) 1 h2 (nrefLM_app [5,6,7,8,9,10] [0,5,6,7,8,9,10] (ChR c p) ex 5 (nrefLM_ex [5,6,7,8,9,10] [0,5,6,7,8,9,10] (ChR c p) 5 (ChR_exB _ c p)) h1)
   show ((true || _) && _)=true
   rw [Bool.true_or,Bool.true_and]
   exact h3
 · rintro q m ⟨rfl,p',hp',rfl⟩ _
   have h2:stJ 1 [0,5,6,7,8,9,10] sl (ChA c p 5 6 7 8 9 10 :: x1 :: x2 :: x3 :: x4 :: (ChR c p++ex)) t q (ChM c' p')=⟨(t,q) :: sansL [5,6,7,8,9,10] sl,ChA c' p' 5 6 7 8 9 10 :: x1 :: x2 :: x3 :: x4 :: (ChR c' p'++ex)⟩:=by
    unfold stJ
    rw [hr]
    refine Z31 ?_
    rw [show (ChM c' p').take (List.length [0,5,6,7,8,9,10])=ChM c' p' from rfl,show (ChM c' p').drop (List.length [0,5,6,7,8,9,10])=[] from rfl,ChM_rens,List.map_nil,List.append_nil]
    rfl
   rw [h2]
   exact hg p' hp'
def allT:Nat→Ch→Ch
 | 0,c=>c
 | n + 1,c=>match c.tos with
  | []=>c
  | x :: _=>allT n (rcvC { c with tos:=c.tos.eraseIdx 0 } x)
def allB:Nat→Ch→Ch
 | 0,c=>c
 | n + 1,c=>match c.bak with
  | []=>c
  | x :: _=>allB n (ackC { c with bak:=c.bak.eraseIdx 0 } x)
theorem dueN_tos:∀ (n:Nat) (c:Ch),(dueN n c).tos=c.tos∧(dueN n c).wai=c.wai∧(dueN n c).una=c.una∧(dueN n c).win=c.win∧(dueN n c).base=c.base∧(dueN n c).nxt=c.nxt∧(dueN n c).bak=c.bak
 | 0,c=>⟨rfl,rfl,rfl,rfl,rfl,rfl,rfl⟩
 | n + 1,c=>by
  unfold dueN
  cases hw:c.ear with
  | nil=>exact ⟨rfl,rfl,rfl,rfl,rfl,rfl,rfl⟩
  | cons q r=>
   show Ch.tos (if _ then _ else _)=_∧Ch.wai (if _ then _ else _)=_∧Ch.una (if _ then _ else _)=_∧Ch.win (if _ then _ else _)=_∧Ch.base (if _ then _ else _)=_∧Ch.nxt (if _ then _ else _)=_∧Ch.bak (if _ then _ else _)=_
   by_cases hq:(q.nu == c.exp)=true
   · simp only [hq,if_true]
     exact dueN_tos n _
   · simp only [hq,if_false]
     exact ⟨rfl,rfl,rfl,rfl,rfl,rfl,rfl⟩
theorem rcvD_tos (c:Ch) (q:Pk):(rcvD c q).tos=c.tos∧(rcvD c q).wai=c.wai∧(rcvD c q).una=c.una∧(rcvD c q).win=c.win∧(rcvD c q).base=c.base∧(rcvD c q).nxt=c.nxt∧(rcvD c q).bak=c.bak:=by
 unfold rcvD
 split
 · exact ⟨rfl,rfl,rfl,rfl,rfl,rfl,rfl⟩
 · split
   · exact dueN_tos _ _
   · split
     · split<;>exact ⟨rfl,rfl,rfl,rfl,rfl,rfl,rfl⟩
     · exact ⟨rfl,rfl,rfl,rfl,rfl,rfl,rfl⟩
theorem ansC_tos (c:Ch):(ansC c).tos=c.tos∧(ansC c).wai=c.wai∧(ansC c).una=c.una∧(ansC c).win=c.win∧(ansC c).base=c.base∧(ansC c).nxt=c.nxt:=by
 unfold ansC sendB
 split<;>exact ⟨rfl,rfl,rfl,rfl,rfl,rfl⟩
theorem rcvC_tos (c:Ch) (s:ByteArray):(rcvC c s).tos=c.tos∧(rcvC c s).wai=c.wai∧(rcvC c s).una=c.una∧(rcvC c s).win=c.win∧(rcvC c s).base=c.base∧(rcvC c s).nxt=c.nxt:=by
 unfold rcvC
 split
 · obtain ⟨h1,h2,h3,h4,h5,h6⟩:=ansC_tos (rcvD c (deP s))
   obtain ⟨g1,g2,g3,g4,g5,g6,_⟩:=rcvD_tos c (deP s)
   exact ⟨h1.trans g1,h2.trans g2,h3.trans g3,h4.trans g4,h5.trans g5,h6.trans g6⟩
 · exact ⟨rfl,rfl,rfl,rfl,rfl,rfl⟩
theorem gd_hd (h:c.Gd):Ch.Gd { c with tos:=c.tos.eraseIdx 0 }:=gd_tos h _ (erase_ok 0 h.tl h.tt).1 (erase_ok 0 h.tl h.tt).2
theorem gd_hb (h:c.Gd):Ch.Gd { c with bak:=c.bak.eraseIdx 0 }:=gd_bak h _ (erase_ok 0 h.bl h.bt).1 (erase_ok 0 h.bl h.bt).2
theorem nextC_bak (c:Ch) (m:ByteArray) (r:List ByteArray):Ch.bak { nextC c m with wai:=r }=c.bak∧Ch.base { nextC c m with wai:=r }=c.base∧Ch.wai { nextC c m with wai:=r }=r:=by
 rw [nextC_eq2];exact ⟨rfl,rfl,rfl⟩
theorem fillN_bak:∀ (n:Nat) (c:Ch),(fillN n c).bak=c.bak∧c.base=(fillN n c).base∧(fillN n c).wai.length≤c.wai.length∧((fillN n c).wai.length < c.wai.length∨(fillN n c).tos=c.tos)
 | 0,c=>⟨rfl,rfl,Nat.le_refl _,.inr rfl⟩
 | n + 1,c=>by
  rcases hw:c.wai with _ | ⟨m,r⟩
  · have e:fillN (n + 1) c=c:=by unfold fillN;rw [hw]
    rw [e,hw];exact ⟨rfl,rfl,Nat.le_refl _,.inr rfl⟩
  · have e:fillN (n + 1) c=if (c.una.length:Int) < c.win then fillN n { nextC c m with wai:=r } else c:=by
     conv=>lhs;unfold fillN
     rw [hw]
    by_cases hl:(c.una.length:Int) < c.win
    · have key:∀ c':Ch,c'.bak=c.bak→c'.base=c.base→c'.wai=r→(fillN n c').bak=c.bak∧c.base=(fillN n c').base∧(fillN n c').wai.length≤(m :: r).length∧((fillN n c').wai.length < (m :: r).length∨(fillN n c').tos=c.tos):=fun c' g1 g2 g3=>by
       obtain ⟨h1,h2,h3,_⟩:=fillN_bak n c'
       rw [g1] at h1
       rw [g2] at h2
       rw [g3] at h3
       exact ⟨h1,h2,by simp only [List.length_cons];omega,.inl (by simp only [List.length_cons];omega)⟩
      rw [e,if_pos hl]
      exact key _ (nextC_bak c m r).1 (nextC_bak c m r).2.1 (nextC_bak c m r).2.2
    · rw [e,if_neg hl,hw];exact ⟨rfl,rfl,Nat.le_refl _,.inr rfl⟩
theorem ackC_bak {s:ByteArray}:(ackC c s).bak=c.bak:=by
 unfold ackC
 split
 · rfl
 · exact (fillN_bak _ _).1
set_option maxRecDepth 100000 in
theorem c53t (c:Ch) (hg:c.Gd):MtL 53 [.ref 0 0,.d (.bool false)] c (.tup []) (allT c.tos.length c):=by
 intro p hp
 generalize hF:allT c.tos.length c=F
 refine glB 1 7 Tryd.func53 Tryd.ntmps53 Tryd.results53 (fun S0 O0 w0 m0 hL hm0=>?_)
 repeat' first | refine s_ ?_ | fail
 refine fz true (by exact rfl) ?_ (by rw [hm0];decide) (ChM_refs c p)
 refine gLo (fun x:Ch×Pp=>⟨[(0,.ref 0 0),(4,.d (.ptr (.agg [.int .i64 1,.bool false,.int .i64 0,.int .i64 0])))],ChM x.1 x.2⟩) (fun x=>x.1.tos.length) (fun x=>x.2.Ok∧x.1.Gd∧allT x.1.tos.length x.1=F) (c,p) ⟨hp,hg,hF⟩ (leKp ⟨rfl,rfl,trivial⟩) (fun x hx Q' hn he hr hp2=>?_)
 obtain ⟨c3,p3⟩:=x
 obtain ⟨hp3,hg3,hF3⟩:p3.Ok∧c3.Gd∧allT c3.tos.length c3=F:=hx
 have q44:=c44tf c3 1 0 0
 unfold acD at q44
 refine (show GF _ _ _ _ ⟨[(0,.ref 0 0),(4,.d (.ptr (.agg [.int .i64 1,.bool false,.int .i64 0,.int .i64 0])))],ChM c3 p3++[]⟩ from ?_)
 repeat' first | refine s_ ?_ | fail
 refine cjf (by exact rfl) q44 hp3 ?_
 repeat' first | refine s_ ?_ | fail
 refine d_ (fun hb=>?_) (fun hb=>?_)
 · have hpos:0 < c3.tos.length:=by have:=oR hb;rw [sD_len] at this;omega
   obtain ⟨x,hx0⟩:∃ x,c3.tos[0]? = some x:=⟨_,gE hpos⟩
   have q45:=c45t c3 1 0 0 hx0 hg3.few (rcv_ofG hg3)
   unfold acD at q45
   repeat' first | refine s_ ?_ | fail
   refine kp [(15,.d (.agg [.int .i64 1,.bool false,.int .i64 0,.int .i64 0])),(14,.ref 0 0),(0,.ref 0 0),(4,.d (.ptr (.agg [.int .i64 1,.bool false,.int .i64 0,.int .i64 0])))] ⟨rfl,rfl,rfl,rfl,trivial⟩ ?_
   refine cjL (by exact rfl) hL q45 hp3 (fun p4 hp4=>?_)
   have hF4:allT (rcvC { c3 with tos:=c3.tos.eraseIdx 0 } x).tos.length (rcvC { c3 with tos:=c3.tos.eraseIdx 0 } x)=F:=by
    rw [← hF3]
    obtain ⟨y,r,hr⟩:∃ y r,c3.tos=y :: r:=by
     cases hq:c3.tos with
     | nil=>rw [hq] at hpos;simp at hpos
     | cons y r=>exact ⟨y,r,rfl⟩
    have hxy:x=y:=by rw [hr] at hx0;injection hx0 with h;exact h.symm
    have hl:(rcvC { c3 with tos:=c3.tos.eraseIdx 0 } x).tos.length=r.length:=by
     rw [(rcvC_tos _ _).1]
     show (c3.tos.eraseIdx 0).length=r.length
     rw [hr];rfl
    rw [hl]
    conv=>rhs;rw [hr]
    show _=allT (r.length + 1) c3
    conv=>rhs;unfold allT
    rw [hr]
    subst hxy
    rfl
   have hlt:(rcvC { c3 with tos:=c3.tos.eraseIdx 0 } x).tos.length < c3.tos.length:=by
    rw [(rcvC_tos _ _).1]
    show (c3.tos.eraseIdx 0).length < _
    rw [List.length_eraseIdx]
    rw [if_pos hpos];omega
   have hg4:=gd_rcv (gd_hd hg3) x
   generalize rcvC { c3 with tos:=c3.tos.eraseIdx 0 } x=c4 at hF4 hlt hg4 ⊢
   iterate 11 refine s_ ?_
   refine fz true (by exact rfl) ?_ (by rw [hm0];decide) (ChM_refs c4 p4)
   repeat' first | refine s_ ?_ | fail
   exact toL (hn _ (c4,p4) ⟨hp4,hg4,hF4⟩ hlt (leKp ⟨rfl,rfl,trivial⟩))
 · have hnil:c3.tos.length=0:=by have:=of_decide_eq_false hb;rw [sD_len] at this;omega
   rw [hnil] at hF3
   have hF5:c3=F:=hF3
   subst hF5
   repeat' first | refine s_ ?_ | fail
   refine Z15 ?_
   repeat' first | refine s_ ?_ | fail
   exact Y8
set_option maxRecDepth 100000 in
theorem c53b (c:Ch) (hg:c.Gd):MtL 53 [.ref 0 0,.d (.bool true)] c (.tup []) (allB c.bak.length c):=by
 intro p hp
 generalize hF:allB c.bak.length c=F
 refine glB 1 7 Tryd.func53 Tryd.ntmps53 Tryd.results53 (fun S0 O0 w0 m0 hL hm0=>?_)
 repeat' first | refine s_ ?_ | fail
 refine fz true (by exact rfl) ?_ (by rw [hm0];decide) (ChM_refs c p)
 refine gLo (fun x:Ch×Pp=>⟨[(0,.ref 0 0),(4,.d (.ptr (.agg [.int .i64 1,.bool true,.int .i64 0,.int .i64 0])))],ChM x.1 x.2⟩) (fun x=>x.1.bak.length) (fun x=>x.2.Ok∧x.1.Gd∧allB x.1.bak.length x.1=F) (c,p) ⟨hp,hg,hF⟩ (leKp ⟨rfl,rfl,trivial⟩) (fun x hx Q' hn he hr hp2=>?_)
 obtain ⟨c3,p3⟩:=x
 obtain ⟨hp3,hg3,hF3⟩:p3.Ok∧c3.Gd∧allB c3.bak.length c3=F:=hx
 have q44:=c44bf c3 1 0 0
 unfold acD at q44
 refine (show GF _ _ _ _ ⟨[(0,.ref 0 0),(4,.d (.ptr (.agg [.int .i64 1,.bool true,.int .i64 0,.int .i64 0])))],ChM c3 p3++[]⟩ from ?_)
 repeat' first | refine s_ ?_ | fail
 refine cjf (by exact rfl) q44 hp3 ?_
 repeat' first | refine s_ ?_ | fail
 refine d_ (fun hb=>?_) (fun hb=>?_)
 · have hpos:0 < c3.bak.length:=by have:=oR hb;rw [sD_len] at this;omega
   obtain ⟨x,hx0⟩:∃ x,c3.bak[0]? = some x:=⟨_,gE hpos⟩
   have q45:=c45b c3 1 0 0 hx0 hg3.few (by have:=hg3.win1;omega) hg3.base0 (by have:=hg3.una;have:=hg3.exp1;omega)
   unfold acD at q45
   repeat' first | refine s_ ?_ | fail
   refine kp [(15,.d (.agg [.int .i64 1,.bool true,.int .i64 0,.int .i64 0])),(14,.ref 0 0),(0,.ref 0 0),(4,.d (.ptr (.agg [.int .i64 1,.bool true,.int .i64 0,.int .i64 0])))] ⟨rfl,rfl,rfl,rfl,trivial⟩ ?_
   refine cjL (by exact rfl) hL q45 hp3 (fun p4 hp4=>?_)
   have hF4:allB (ackC { c3 with bak:=c3.bak.eraseIdx 0 } x).bak.length (ackC { c3 with bak:=c3.bak.eraseIdx 0 } x)=F:=by
    rw [← hF3]
    obtain ⟨y,r,hr⟩:∃ y r,c3.bak=y :: r:=by
     cases hq:c3.bak with
     | nil=>rw [hq] at hpos;simp at hpos
     | cons y r=>exact ⟨y,r,rfl⟩
    have hxy:x=y:=by rw [hr] at hx0;injection hx0 with h;exact h.symm
    have hl:(ackC { c3 with bak:=c3.bak.eraseIdx 0 } x).bak.length=r.length:=by
     rw [ackC_bak]
     show (c3.bak.eraseIdx 0).length=r.length
     rw [hr];rfl
    rw [hl]
    conv=>rhs;rw [hr]
    show _=allB (r.length + 1) c3
    conv=>rhs;unfold allB
    rw [hr]
    subst hxy
    rfl
   have hlt:(ackC { c3 with bak:=c3.bak.eraseIdx 0 } x).bak.length < c3.bak.length:=by
    rw [ackC_bak]
    show (c3.bak.eraseIdx 0).length < _
    rw [List.length_eraseIdx]
    rw [if_pos hpos];omega
   have hg4:=gd_ack (gd_hb hg3) x
   generalize ackC { c3 with bak:=c3.bak.eraseIdx 0 } x=c4 at hF4 hlt hg4 ⊢
   iterate 11 refine s_ ?_
   refine fz true (by exact rfl) ?_ (by rw [hm0];decide) (ChM_refs c4 p4)
   repeat' first | refine s_ ?_ | fail
   exact toL (hn _ (c4,p4) ⟨hp4,hg4,hF4⟩ hlt (leKp ⟨rfl,rfl,trivial⟩))
 · have hnil:c3.bak.length=0:=by have:=of_decide_eq_false hb;rw [sD_len] at this;omega
   rw [hnil] at hF3
   have hF5:c3=F:=hF3
   subst hF5
   repeat' first | refine s_ ?_ | fail
   refine Z15 ?_
   repeat' first | refine s_ ?_ | fail
   exact Y8
end
section
theorem allT_ok:∀ (n:Nat) (c:Ch),c.tos.length≤n→c.Gd→(allT n c).Gd∧(allT n c).tos=[]∧(allT n c).wai=c.wai∧(allT n c).una=c.una∧(allT n c).win=c.win∧(allT n c).base=c.base∧(allT n c).nxt=c.nxt
 | 0,c,hn,h=>⟨h,List.eq_nil_of_length_eq_zero (show c.tos.length=0 by omega),rfl,rfl,rfl,rfl,rfl⟩
 | n + 1,c,hn,h=>by
  rcases hw:c.tos with _ | ⟨x,r⟩
  · have e:allT (n + 1) c=c:=by unfold allT;rw [hw]
    rw [e];exact ⟨h,hw,rfl,rfl,rfl,rfl,rfl⟩
  · have e:allT (n + 1) c=allT n (rcvC { c with tos:=c.tos.eraseIdx 0 } x):=by
     conv=>lhs;unfold allT
     rw [hw]
    obtain ⟨g1,g2,g3,g4,g5,g6⟩:=rcvC_tos { c with tos:=c.tos.eraseIdx 0 } x
    have hl:(rcvC { c with tos:=c.tos.eraseIdx 0 } x).tos.length≤n:=by
     rw [g1]
     show (c.tos.eraseIdx 0).length≤n
     rw [hw] at hn ⊢
     simp at hn ⊢;exact hn
    obtain ⟨f1,f2,f3,f4,f5,f6,f7⟩:=allT_ok n _ hl (gd_rcv (gd_hd h) x)
    rw [e]
    exact ⟨f1,f2,f3.trans g2,f4.trans g3,f5.trans g4,f6.trans g5,f7.trans g6⟩
theorem ackC_wai (c:Ch) (s:ByteArray):(ackC c s).wai.length≤c.wai.length∧((ackC c s).wai.length < c.wai.length∨(ackC c s).tos=c.tos)∧c.base≤(ackC c s).base:=by
 unfold ackC
 split
 · exact ⟨Nat.le_refl _,.inr rfl,Int.le_refl _⟩
 · rename_i hn
   have hn':=eq_false_of_ne_true hn
   simp only [Bool.or_eq_false_iff,decide_eq_false_iff_not] at hn'
   obtain ⟨h1,h2,h3,h4⟩:=fillN_bak c.wai.length { c with una:=c.una.drop ((deP s).nu - c.base).toNat,base:=(deP s).nu }
   refine ⟨h3,h4,?_⟩
   rw [← h2]
   show c.base≤(deP s).nu
   omega
theorem allB_ok:∀ (n:Nat) (c:Ch),c.bak.length≤n→c.Gd→(allB n c).Gd∧(allB n c).bak=[]∧(allB n c).wai.length≤c.wai.length∧((allB n c).wai.length < c.wai.length∨(allB n c).tos=c.tos)∧c.base≤(allB n c).base
 | 0,c,hn,h=>⟨h,List.eq_nil_of_length_eq_zero (show c.bak.length=0 by omega),Nat.le_refl _,.inr rfl,Int.le_refl _⟩
 | n + 1,c,hn,h=>by
  rcases hw:c.bak with _ | ⟨x,r⟩
  · have e:allB (n + 1) c=c:=by unfold allB;rw [hw]
    rw [e];exact ⟨h,hw,Nat.le_refl _,.inr rfl,Int.le_refl _⟩
  · have e:allB (n + 1) c=allB n (ackC { c with bak:=c.bak.eraseIdx 0 } x):=by
     conv=>lhs;unfold allB
     rw [hw]
    obtain ⟨g1,g2,g3⟩:=ackC_wai { c with bak:=c.bak.eraseIdx 0 } x
    have g1':(ackC { c with bak:=c.bak.eraseIdx 0 } x).wai.length≤c.wai.length:=g1
    have g2':(ackC { c with bak:=c.bak.eraseIdx 0 } x).wai.length < c.wai.length∨(ackC { c with bak:=c.bak.eraseIdx 0 } x).tos=c.tos:=g2
    have g3':c.base≤(ackC { c with bak:=c.bak.eraseIdx 0 } x).base:=g3
    have hl:(ackC { c with bak:=c.bak.eraseIdx 0 } x).bak.length≤n:=by
     rw [ackC_bak]
     show (c.bak.eraseIdx 0).length≤n
     rw [hw] at hn ⊢
     simp at hn ⊢;exact hn
    obtain ⟨f1,f2,f3,f4,f5⟩:=allB_ok n _ hl (gd_ack (gd_hb h) x)
    rw [e]
    refine ⟨f1,f2,by omega,?_,by omega⟩
    rcases f4 with f4 | f4
    · left;omega
    · rcases g2' with g | g
      · left;omega
      · right;exact f4.trans g
def roundC (c:Ch):Ch:=allB (allT c.tos.length c).bak.length (allT c.tos.length c)
def muC (c:Ch):Nat:=c.wai.length + (if c.tos=[]∧c.bak=[] then 0 else 1)
def drainF:Nat→Ch→Ch
 | 0,c=>c
 | n + 1,c=>if c.tos=[]∧c.bak=[] then c else drainF n (roundC c)
def drainS (c:Ch):Ch:=drainF (muC c) c
variable {c:Ch}
theorem round_ok (h:c.Gd):(roundC c).Gd∧(roundC c).bak=[]∧c.base≤(roundC c).base∧(¬ (c.tos=[]∧c.bak=[])→muC (roundC c) < muC c):=by
 obtain ⟨f1,f2,f3,f4,f5,f6,f7⟩:=allT_ok c.tos.length c (Nat.le_refl _) h
 obtain ⟨g1,g2,g3,g4,g5⟩:=allB_ok (allT c.tos.length c).bak.length (allT c.tos.length c) (Nat.le_refl _) f1
 refine ⟨g1,g2,by rw [f6] at g5;exact g5,fun hne=>?_⟩
 have hb:(roundC c).bak=[]:=g2
 rw [f3] at g3 g4
 have g3':(roundC c).wai.length≤c.wai.length:=g3
 have g4':(roundC c).wai.length < c.wai.length∨(roundC c).tos=[]:=by
  rcases g4 with g | g
  · exact .inl g
  · exact .inr (g.trans f2)
 unfold muC
 rw [if_neg hne]
 rcases g4' with g | g
 · split<;>omega
 · rw [if_pos ⟨g,hb⟩];omega
theorem drain_step {n:Nat} (h:c.Gd) (hn:muC c≤n) (hne:¬ (c.tos=[]∧c.bak=[])):∃ m,muC (roundC c)≤m∧drainF n c=drainF m (roundC c):=by
 have h1:=(round_ok h).2.2.2 hne
 cases n with
 | zero=>omega
 | succ m=>
  refine ⟨m,by omega,?_⟩
  conv=>lhs;unfold drainF
  rw [if_neg hne]
theorem drain_end (n:Nat) (he:c.tos=[]∧c.bak=[]):drainF n c=c:=by
 cases n with
 | zero=>rfl
 | succ m=>unfold drainF;rw [if_pos he]
theorem drain_ok:∀ (n:Nat) {c:Ch},muC c≤n→c.Gd→(drainF n c).Gd∧(drainF n c).tos=[]∧(drainF n c).bak=[]∧c.base≤(drainF n c).base
 | 0,c,hn,h=>by
  by_cases he:c.tos=[]∧c.bak=[]
  · exact ⟨h,he.1,he.2,Int.le_refl _⟩
  · exfalso;unfold muC at hn;rw [if_neg he] at hn;omega
 | n + 1,c,hn,h=>by
  by_cases he:c.tos=[]∧c.bak=[]
  · rw [drain_end _ he];exact ⟨h,he.1,he.2,Int.le_refl _⟩
  · obtain ⟨h1,h2,h3,h4⟩:=round_ok h
    have:=h4 he
    obtain ⟨g1,g2,g3,g4⟩:=drain_ok n (c:=roundC c) (by omega) h1
    have e:drainF (n + 1) c=drainF n (roundC c):=by conv=>lhs;unfold drainF;rw [if_neg he]
    rw [e]
    exact ⟨g1,g2,g3,by omega⟩
def settleF:Nat→Nat→Int×Int→Ch→Ch×Int×Int
 | 0,_,_,_=>(zeroC,0,8)
 | n + 1,t,last,c=>if (drainS c).una=[] then (drainS c,(t:Int),0) else if t=20000∨((drainS c).base=last.1∧(drainS c).exp=last.2) then (zeroC,0,8) else settleF n (t + 1) ((drainS c).base,(drainS c).exp) (tickC (drainS c))
def settleS (c:Ch):Ch×Int×Int:=if chkC c=true then (zeroC,0,331) else settleF 20001 0 (-1,-1) c
theorem und94:Tryd.prog.underlying 94=some (.array 2 3):=by kernel_rfl
theorem eq_arr (a b c d:Int) (w:World):(Op.equalIn 10000 94 (.agg #[.int .i64 a,.int .i64 b]) (.agg #[.int .i64 c,.int .i64 d])).run Tryd.prog w=.ok (a == c && b == d) w:=by
 obtain ⟨i0,hi0⟩:=Option.isSome_iff_exists.1 (show (Tryd.prog.info? 3).isSome=true by kernel_rfl)
 rw [run_equalIn_array w 9999 _ _ und94 hi0]
 have hpk:Tryd.prog.plainKey 3=true:=by kernel_rfl
 have hc1:Tryd.prog.cellsOf 3=1:=by kernel_rfl
 have p0:∀ x y:Int,(part 3 #[.int .i64 x,.int .i64 y] 0).run Tryd.prog w=.ok (.int .i64 x) w:=fun x y=>run_part_plain w hpk rfl
 have p1:∀ x y:Int,(part 3 #[.int .i64 x,.int .i64 y] 1).run Tryd.prog w=.ok (.int .i64 y) w:=fun x y=>run_part_plain w hpk rfl
 have q:∀ x y:Int,(Op.equalIn 9999 3 (.int .i64 x) (.int .i64 y)).run Tryd.prog w=.ok (x == y) w:=fun x y=>run_equalIn_int (P:=Tryd.prog) w 9998 3 .i64 .i64 x y u3
 rw [hc1,show List.range 2=[0,1] from rfl]
 simp only [Op.eqItems,Sem.run_bind,Nat.zero_mul,Nat.one_mul,p0,p1,q,Result.andThen_ok]
 cases hac:(a == c)<;>cases hbd:(b == d)<;>simp [p1,q,hbd]
theorem Q_arreq {K:Ctx} {s:GS} {t:Nat} {yt rt:TypeId} {x y:Operand} {pos:String} {af:Array Edge} {g:Option (Nat×Bool)} {a b c d:Int} (hP:K.P=Tryd.prog)
 (hx:s.ev x=.d (.agg [.int .i64 a,.int .i64 b])) (hy:s.ev y=.d (.agg [.int .i64 c,.int .i64 d])):Qy K ⟨some t,.binOp .eql 94 x y yt,rt,pos,af,g⟩ s t (.d (.bool (a == c && b == d))):=by
 refine fun S O m ac w h=>⟨.bool (a == c && b == d),fun w _=>?_,.d _ _ _ (.bool _)⟩
 have h1:=rd_leafs (h.evd hx) (vs:=[.int .i64 a,.int .i64 b]) rfl
 have h2:=rd_leafs (h.evd hy) (vs:=[.int .i64 c,.int .i64 d]) rfl
 have hm:Tryd.prog.eqGuardType Tryd.prog.depth 94=false:=by kernel_rfl
 rw [hP]
 simp only [execOp,h1,h2]
 have h3:=eq_arr a b c d w
 simp only [Sem.run_bind,run_eqGuard_agg w .eql 94 x y #[.int .i64 a,.int .i64 b] #[.int .i64 c,.int .i64 d] hm,Result.andThen_ok,run_eql_struct,h3]
 rfl
theorem leSt {K:Ctx} {sl sl':List (Nat×PV)} {p:Pp} {a:List PV} {more:List (List PV)} (hm:K.m0.length=0) (ha:CSub 12 a a) (hs:Sub ⟨sl,ChA c p 5 6 7 8 9 10 :: zcel :: unk 10 :: unk 10 :: unk 5 :: (ChR c p++(a :: more))⟩ 12 sl'):Le K ⟨sl,ChA c p 5 6 7 8 9 10 :: zcel :: unk 10 :: unk 10 :: unk 5 :: (ChR c p++(a :: more))⟩ ⟨sl',ChA c p 5 6 7 8 9 10 :: zcel :: unk 10 :: unk 10 :: unk 5 :: (ChR c p++[a])⟩:=Le_0 hm (.cons CSa (.cons CSa (.cons (CSub_unk _ (unk 10)) (.cons (CSub_unk _ (unk 10)) (.cons (CSub_unk _ (unk 5)) (.cons (CSub_flat _ _) (.cons (CSub_flat _ _) (.cons (CSub_flat _ _) (.cons (CSub_flat _ _) (.cons (CSub_flat _ _) (.cons (CSub_flat _ _) (.cons ha .nil)))))))))))) hs
set_option maxRecDepth 100000 in
theorem c30 (c:Ch) (hc:c.Few):PL 30 [c.d] (.tup [.d (settleS c).1.d,.d (.int .i64 (settleS c).2.1),.d (.int .i64 (settleS c).2.2)]):=by
 have hc':=hc
 obtain ⟨h0,h1,h2,h3,h4,h5⟩:=hc'
 have q16:=c16 c (by omega) (by omega) (by omega) (by omega) (by omega) (by omega)
 have q40:=c40 c hc
 unfold settleS
 cases hk:chkC c with
 | true=>
  rw [if_pos hk] at q16
  rw [if_pos rfl]
  unfold Ch.d at q16 ⊢
  refine plB Tryd.func30 Tryd.ntmps30 Tryd.results30 (fun S0 O0 w0 m0 hL hm0=>?_)
  repeat' first | refine s_ ?_ | refine c_ q16 ?_ | fail
  refine Z16 ?_
  repeat' first | refine s_ ?_ | fail
  exact e_
 | false=>
 have hg:=gd_of hc hk
 rw [if_neg (by rw [hk];decide)] at q16
 rw [if_neg (by decide)]
 generalize hF:settleF 20001 0 (-1,-1) c=F
 unfold Ch.d at q16 q40
 refine plB Tryd.func30 Tryd.ntmps30 Tryd.results30 (fun S0 O0 w0 m0 hL hm0=>?_)
 repeat' first | refine s_ ?_ | refine c_ q16 ?_ | fail
 refine Z1 ?_
 repeat' first | refine s_ ?_ | fail
 refine cn (by exact rfl) q40 (r':=.agg (ChA c p0 5 6 7 8 9 10)) (mem':=(chD c :: zcel :: unk 10 :: unk 10 :: unk 5 :: ChR c p0)) ?_ rfl (by rw [List.map_append,ChR_rens];rfl)
 repeat' first | refine s_ ?_ | fail
 refine gLo (fun x:Nat×Ch×Pp×Int×Int=>⟨[(1,.ref 0 0),(2,.ref 1 0),(3,.d (.int .i64 0)),(4,.d (.int .i64 0)),(6,.ref 11 0),(7,.d (.int .i64 (x.1:Int)))],ChA x.2.1 x.2.2.1 5 6 7 8 9 10 :: zcel :: unk 10 :: unk 10 :: unk 5 :: (ChR x.2.1 x.2.2.1++[[.d (.int .i64 x.2.2.2.1),.d (.int .i64 x.2.2.2.2)]])⟩) (fun x=>20000 - x.1) (fun x=>x.1≤20000∧x.2.2.1.Ok∧x.2.1.Gd∧settleF (20001 - x.1) x.1 (x.2.2.2.1,x.2.2.2.2) x.2.1=F) (0,c,p0,-1,-1) ⟨Nat.zero_le _,p0_ok,hg,hF⟩ ?_ (fun x hx Q' hn he hr hp=>?_)
 · exact leSt (more:=[]) hm0 CSa SSa
 obtain ⟨tk,c1,p1,l1,l2⟩:=x
 obtain ⟨htk,hp1,hg1,hF1⟩:tk≤20000∧p1.Ok∧c1.Gd∧settleF (20001 - tk) tk (l1,l2) c1=F:=hx
 refine (show GF _ _ _ _ ⟨[(1,.ref 0 0),(2,.ref 1 0),(3,.d (.int .i64 0)),(4,.d (.int .i64 0)),(6,.ref 11 0),(7,.d (.int .i64 (tk:Int)))],ChA c1 p1 5 6 7 8 9 10 :: zcel :: unk 10 :: unk 10 :: unk 5 :: (ChR c1 p1++[[.d (.int .i64 l1),.d (.int .i64 l2)]])⟩ from ?_)
 repeat' first | refine s_ ?_ | fail
 refine gLo (fun x:Ch×Pp=>⟨[(1,.ref 0 0),(2,.ref 1 0),(3,.d (.int .i64 0)),(4,.d (.int .i64 0)),(6,.ref 11 0),(7,.d (.int .i64 (tk:Int)))],ChA x.1 x.2 5 6 7 8 9 10 :: zcel :: unk 10 :: unk 10 :: unk 5 :: (ChR x.1 x.2++[[.d (.int .i64 l1),.d (.int .i64 l2)]])⟩) (fun x=>muC x.1) (fun x=>x.2.Ok∧x.1.Gd∧∃ n,muC x.1≤n∧drainF n x.1=drainS c1) (c1,p1) ⟨hp1,hg1,muC c1,Nat.le_refl _,rfl⟩ ?_ (fun x hx Q' hn2 he2 hr2 hp2=>?_)
 · exact leSt (more:=[]) hm0 CSa SSa
 obtain ⟨c2,p2⟩:=x
 obtain ⟨hp2',hg2,n2,hn2',hd2⟩:p2.Ok∧c2.Gd∧∃ n,muC c2≤n∧drainF n c2=drainS c1:=hx
 refine (show GF _ _ _ _ ⟨[(1,.ref 0 0),(2,.ref 1 0),(3,.d (.int .i64 0)),(4,.d (.int .i64 0)),(6,.ref 11 0),(7,.d (.int .i64 (tk:Int)))],ChA c2 p2 5 6 7 8 9 10 :: zcel :: unk 10 :: unk 10 :: unk 5 :: (ChR c2 p2++[[.d (.int .i64 l1),.d (.int .i64 l2)]])⟩ from ?_)
 repeat' first | refine s_ ?_ | fail
 refine d_ (fun hb=>?_) (fun hb=>?_)
 · have hne:¬ (c2.tos=[]∧c2.bak=[]):=by
    rintro ⟨g1,g2⟩
    rw [g1,g2] at hb
    simp [sD] at hb
   have q1:=c53t c2 hg2
   obtain ⟨f1,_⟩:=allT_ok c2.tos.length c2 (Nat.le_refl _) hg2
   have q2:=c53b (allT c2.tos.length c2) f1
   obtain ⟨m2,hm2,hd3⟩:=drain_step hg2 hn2' hne
   obtain ⟨g1,g2,g3,g4⟩:=round_ok hg2
   have hlt:=g4 hne
   rw [hd3] at hd2
   unfold roundC at g1 hm2 hd2 hlt
   repeat' first | refine s_ ?_ | fail
   refine kp [(1,.ref 0 0),(2,.ref 1 0),(3,.d (.int .i64 0)),(4,.d (.int .i64 0)),(6,.ref 11 0),(7,.d (.int .i64 (tk:Int)))] ⟨rfl,rfl,rfl,rfl,rfl,rfl,trivial⟩ ?_
   refine cj4L (by exact rfl) hL q1 hp2' (fun p3 hp3=>?_)
   repeat' first | refine s_ ?_ | fail
   refine cj4L (by exact rfl) hL q2 hp3 (fun p4 hp4=>?_)
   repeat' first | refine s_ ?_ | fail
   exact toL (hn2 _ (_,p4) ⟨hp4,g1,m2,hm2,hd2⟩ hlt (leSt (more:=[]) hm0 CSa SSa))
 · have hnil:c2.tos=[]∧c2.bak=[]:=by
    rw [Bool.or_eq_false_iff] at hb
    have e1:=of_decide_eq_false hb.1
    have e2:=of_decide_eq_false hb.2
    rw [sD_len] at e1 e2
    exact ⟨List.eq_nil_of_length_eq_zero (by omega),List.eq_nil_of_length_eq_zero (by omega)⟩
   rw [drain_end n2 hnil] at hd2
   have hF2:settleF (20000 - tk + 1) tk (l1,l2) c1=F:=by rw [show 20000 - tk + 1=20001 - tk by omega];exact hF1
   unfold settleF at hF2
   rw [← hd2] at hF2
   repeat' first | refine s_ ?_ | fail
   refine toL (he2 _ _ ?_)
   repeat' first | refine s_ ?_ | fail
   refine d_ (fun hb=>?_) (fun hb=>?_)
   · have hu:c2.una=[]:=by
      have h:((sD c2.una).length:Int)=0:=by simpa using hb
      rw [sD_len] at h
      exact Y4
     rw [if_pos hu] at hF2
     subst hF2
     refine gLe (s':=⟨[(1,.ref 0 0),(2,.ref 1 0),(3,.d (.int .i64 0)),(4,.d (.int .i64 0)),(7,.d (.int .i64 (tk:Int)))],ChA c2 p2 5 6 7 8 9 10 :: zcel :: unk 10 :: unk 10 :: unk 5 :: ChR c2 p2⟩) (Le_0 hm0 (.cons CSa (.cons CSa (.cons (CSub_unk _ (unk 10)) (.cons (CSub_unk _ (unk 10)) (.cons (CSub_unk _ (unk 5)) (.cons (CSub_flat _ _) (.cons (CSub_flat _ _) (.cons (CSub_flat _ _) (.cons (CSub_flat _ _) (.cons (CSub_flat _ _) (.cons (CSub_flat _ _) .nil))))))))))) SSa) ?_ rfl
     refine gChD4 hp2' ?_ (by rw [hm0];exact Nat.zero_le _)
     repeat' first | refine s_ ?_ | fail
     refine Z28 ?_
     repeat' first | refine s_ ?_ | fail
     exact e_
   · have hu:¬ c2.una=[]:=by
      intro h
      rw [h] at hb
      simp [sD] at hb
     rw [if_neg hu] at hF2
     have q49:=c49 c2 (acD 0 false 0 0) ⟨0,false,0,0,rfl⟩ hg2.few.una
     have hg5:=gd_tick hg2
     unfold acD at q49
     repeat' first | refine s_ ?_ | refine gq (p:=.d (.bool (c2.base == l1 && c2.exp == l2))) (by exact rfl) (fun _ _=>by exact Q_arreq rfl rfl rfl) ?_ | fail
     refine d_ (fun hb=>?_) (fun hb=>?_)
     · have h20:tk=20000∨(c2.base=l1∧c2.exp=l2):=by
        rw [Bool.or_eq_true,Bool.and_eq_true] at hb
        rcases hb with hb | hb
        · left
          have:(tk:Int)=20000:=by simpa using hb
          omega
        · right;exact ⟨by simpa using hb.1,by simpa using hb.2⟩
       rw [if_pos h20] at hF2
       subst hF2
       repeat' first | refine s_ ?_ | fail
       refine Z28 ?_
       repeat' first | refine s_ ?_ | fail
       exact e_
     · have h20:¬ (tk=20000∨(c2.base=l1∧c2.exp=l2)):=by
        rw [Bool.or_eq_false_iff] at hb
        rintro (h | ⟨h,h'⟩)
        · subst h;simp at hb
        · rw [h,h'] at hb;simp at hb
       rw [if_neg h20] at hF2
       repeat' first | refine s_ ?_ | fail
       refine kp ((52,.d (.agg [.int .i64 0,.bool false,.int .i64 0,.int .i64 0])) :: [(1,.ref 0 0),(2,.ref 1 0),(3,.d (.int .i64 0)),(4,.d (.int .i64 0)),(6,.ref 11 0),(7,.d (.int .i64 (tk:Int)))]) ⟨rfl,rfl,rfl,rfl,rfl,rfl,rfl,trivial⟩ ?_
       refine (show GF _ _ _ _ ⟨_,ChA c2 p2 5 6 7 8 9 10 :: zcel :: unk 10 :: unk 10 :: unk 5 :: (ChR c2 p2++[[.d (.int .i64 c2.base),.d (.int .i64 c2.exp)],[.d (.int .i64 c2.base),.d (.int .i64 c2.exp)]])⟩ from ?_)
       refine cj4 (by exact rfl) q49 hp2' (fun p5 hp5=>?_)
       generalize tickC c2=c5 at hg5 hF2 ⊢
       repeat' first | refine s_ ?_ | fail
       rw [show IntKind.i64.wrap ((tk:Int) + 1)=((tk + 1:Nat):Int) by rw [wrap_i64 (by omega) (by omega)];rfl]
       have htk2:tk + 1≤20000:=by omega
       exact toL (hn _ (tk + 1,c5,p5,c2.base,c2.exp) ⟨htk2,hp5,hg5,by show settleF (20001 - (tk + 1)) (tk + 1) _ _=_;rw [show 20001 - (tk + 1)=20000 - tk by omega];exact hF2⟩ (by dsimp only;omega) (leSt (more:=[[.d (.int .i64 c2.base),.d (.int .i64 c2.exp)]]) hm0 CSa SSa))
end
section
theorem zIn {kl:List (Nat×Nat)} {K:Ctx} {fr:List Fr} {ops:Array Oper} {base pre:List (Nat×PV)} {ws:List Nat} {ms:List (List (List PV))} {i j t:Nat} {es es':List (Nat×Nat×PV)} {Q:Exit→GS→Prop} {p:PV} (hs:seeF kl ops.toList i es base=some pre) (hj:nth nums (i + 1)=some j) (hes:snocK es (i,t,p) some=some es') (hi:memN i ws=false) (hl:Nat.blt ws.length ms.length=true)
 (hc:COz kl K fr ops base ws ms j es' Q) (hstep:∀ (rest:List (Nat×PV)),∀ X ∈ ms,∀ (Q':Exit→GS→Prop),GF K [] (.ops ops []) Q' ⟨(t,p) :: (pre++rest),X⟩→GF K [] (.ops ops [i]) Q' ⟨pre++rest,X⟩):COz kl K fr ops base ws ms i es Q:=by
 have hpre:=seeF_of hs
 subst hpre
 have hj:=numj hj
 rw [snocK_eq] at hes
 injection hes with hes
 subst hj;subst hes
 have hin:i ∉ ws:=fun h=>by rw [memN_iff.2 h] at hi;cases hi
 have hck:CFk kl K ops (fun b=>ms.getD (ws.countP b) []) base (unf K Q fr) i es (fun rest=>pick es ((depsOf ops i).filter (klOk kl i))++base++rest):=
  ck_st (i + 1) (fun b rest _ _ _=>by
   have hlt:ws.countP b < ms.length:=by
    have h1:ws.countP b≤ws.length:=List.countP_le_length
    have h2:ws.length < ms.length:=blt_of hl
    omega
   have hX:ms.getD (ws.countP b) [] ∈ ms:=by rw [List.getD_eq_getElem?_getD,gE hlt];exact List.getElem_mem hlt
   rw [countP_upd hin]
   exact ofO (fr:=[]) (hstep rest _ hX (fun e s'=>e=.normal∧s'=⟨(t,p) :: (pick es ((depsOf ops i).filter (klOk kl i))++base++rest),ms.getD (ws.countP b) []⟩) (toO (fr:=[]) (gN ⟨rfl,rfl⟩)))) hc rfl rfl
 exact hck ((depsOf ops i).filter (klOk kl i)) (fun _=>rfl) klF
theorem z3 {n:Nat} {S0:Reg} {O0:Owns} {w0:World} {m0 Bs:List Nat} {ds:List Deferred} {fr:List Fr} {Q:Exit→GS→Prop} {kl:List (Nat×Nat)} {ops:Array Oper} {base pre:List (Nat×PV)} {ws:List Nat} {A B C:List (List PV)} {i j t:Nat} {es es':List (Nat×Nat×PV)} {ob:List (Bool×Bool)} {p:PV} (hs:seeF kl ops.toList i es base=some pre:=by exact rfl) (hj:nth nums (i + 1)=some j:=by exact rfl) (hA:∀ rest,E.step tab ops.toList n i ⟨pre++rest,A⟩=some (ob,⟨(t,p) :: (pre++rest),A⟩):=by exact fun _=>rfl) (hB:∀ rest,E.step tab ops.toList n i ⟨pre++rest,B⟩=some (ob,⟨(t,p) :: (pre++rest),B⟩):=by exact fun _=>rfl) (hC:∀ rest,E.step tab ops.toList n i ⟨pre++rest,C⟩=some (ob,⟨(t,p) :: (pre++rest),C⟩):=by exact fun _=>rfl) (hes:snocK es (i,t,p) some=some es':=by exact rfl) (hc:COz kl ⟨Tryd.prog,n,S0,O0,w0,m0,Bs,ds⟩ fr ops base ws [A,B,C] j es' Q) (hi:memN i ws=false:=by rfl) (hl:Nat.blt ws.length 3=true:=by rfl) (ho:Obl ob:=by repeat first | exact Obl.nil | refine Obl.same ?_ | refine Obl.imp (fun h=>by simp_all) ?_):COz kl ⟨Tryd.prog,n,S0,O0,w0,m0,Bs,ds⟩ fr ops base ws [A,B,C] i es Q:=
 zIn hs hj hes hi hl hc fun rest X hX _ hg=>by
  rcases List.mem_cons.1 hX with rfl | hX
  · exact toO (gv tabOk (hA rest) (ofO hg) ho)
  rcases List.mem_cons.1 hX with rfl | hX
  · exact toO (gv tabOk (hB rest) (ofO hg) ho)
  rcases List.mem_cons.1 hX with rfl | hX
  · exact toO (gv tabOk (hC rest) (ofO hg) ho)
  · cases hX
set_option maxRecDepth 100000 in
theorem c23F (c:Ch) (k:Int) (b:Bool) (ix at_:Int) (hc:c.Few):ActR c k b ix at_ (actS c k b ix at_):=by
 cases hk:chkC c with
 | true=>
  have hc':=hc
  obtain ⟨h0,h1,h2,h3,h4,h5⟩:=hc'
  have q17:=c17 c (by omega) (by omega) (by omega) (by omega) (by omega) (by omega)
  rw [if_pos hk] at q17
  unfold actS
  rw [if_pos hk]
  unfold ActR acD
  unfold Ch.d at q17 ⊢
  refine pfb Tryd.func23 Tryd.ntmps23 Tryd.results23 (fun S0 O0 w0 m0 hm0=>?_)
  iterate 4 refine s_ ?_
  refine Z8 ?_
  repeat' first | refine s_ ?_ | refine c_ q17 ?_ | fail
  refine Z16 ?_
  repeat' first | refine s_ ?_ | fail
  exact e_
 | false=>exact c23 c k b ix at_ (sm_of hc hk)
set_option maxRecDepth 100000 in
theorem c29 (c:Ch) (l:List Ac) (hc:c.Few) (hl:l.length≤1000000):Pf Tryd.prog 29 [c.d,.sl (aD l)] (.tup [.d (playS c l).1.d,.d (.int .i64 (playS c l).2),.d (.int .i64 (playE c))]):=by
 have hc':=hc
 obtain ⟨h0,h1,h2,h3,h4,h5⟩:=hc'
 have q17:=c17 c (by omega) (by omega) (by omega) (by omega) (by omega) (by omega)
 have q42:=c42 c hc
 unfold playS playE
 cases hk:chkC c with
 | true=>
  rw [if_pos hk] at q17
  rw [if_pos rfl,if_pos rfl]
  unfold Ch.d at q17 ⊢
  refine pfb Tryd.func29 Tryd.ntmps29 Tryd.results29 (fun S0 O0 w0 m0 hm0=>?_)
  repeat' first | refine s_ ?_ | refine c_ q17 ?_ | fail
  refine Z16 ?_
  repeat' first | refine s_ ?_ | fail
  exact e_
 | false=>
 rw [if_neg (by rw [hk];decide)] at q17
 rw [if_neg (by decide),if_neg (by decide)]
 generalize hF:playF l (c,0)=F
 unfold Ch.d at q17 q42 ⊢
 refine pfb Tryd.func29 Tryd.ntmps29 Tryd.results29 (fun S0 O0 w0 m0 hm0=>?_)
 repeat' first | refine s_ ?_ | refine c_ q17 ?_ | fail
 refine Z1 ?_
 repeat' first | refine s_ ?_ | fail
 refine cn (by exact rfl) q42 (r':=.agg (ChA c p0 4 5 7 8 9 6)) (mem':=(chD c :: zcel :: unk 10 :: unk 10 :: ChRr c p0)) ?_ rfl ?_
 rotate_left
 · rw [List.map_append,ChRr_rens];rfl
 repeat' first | refine s_ ?_ | fail
 refine kp [(1,.d (.sl (aD l))),(2,.ref 0 0),(4,.ref 1 0),(5,.d (.int .i64 0)),(6,.d (.int .i64 0)),(8,.d (.int .i64 0)),(9,.d (.int .i64 0))] ⟨rfl,rfl,rfl,rfl,rfl,rfl,rfl,trivial⟩ ?_
 refine Z0 ?_;refine Z2 ?_
 refine gLo (fun x:Nat×Ch×Int=>⟨[(1,.d (.sl (aD l))),(2,.ref 0 0),(4,.ref 1 0),(5,.d (.int .i64 0)),(6,.d (.int .i64 0)),(8,.d (.int .i64 x.2.2)),(9,.d (.int .i64 (x.1:Int)))],[chD x.2.1,zcel]⟩) (fun x=>l.length - x.1) (fun x=>x.1≤l.length∧x.2.1.Few∧playF (l.drop x.1) x.2=F) (0,c,0) ⟨Nat.zero_le _,hc,hF⟩ ?_ (fun x hx Q' hn he hr hp=>?_)
 · exact Le_0 hm0 (.cons CSa (.cons CSa .nil)) SSa
 obtain ⟨z,c2,n⟩:=x
 obtain ⟨hz,hf2,hF2⟩:z≤l.length∧c2.Few∧playF (l.drop z) (c2,n)=F:=hx
 refine (show GF _ _ _ _ ⟨[(1,.d (.sl (aD l))),(2,.ref 0 0),(4,.ref 1 0),(5,.d (.int .i64 0)),(6,.d (.int .i64 0)),(8,.d (.int .i64 n)),(9,.d (.int .i64 (z:Int)))],[chD c2,zcel]⟩ from ?_)
 repeat' first | refine s_ ?_ | fail
 refine d_ (fun hb=>?_) (fun hb=>?_)
 · have hlt:z < l.length:=by have:=oR hb;rw [aD_len] at this;omega
   obtain ⟨a,hga⟩:∃ a,l[z]? = some a:=⟨_,gE hlt⟩
   have hpa:=aD_get hga
   rw [drop_get hga] at hF2
   have q23:=c23F c2 a.k a.b a.ix a.at_ hf2
   have hf3:=actS_fewF hf2 a.k a.b a.ix a.at_
   unfold playF at hF2
   dsimp only at hF2
   unfold ActR acD at q23
   generalize (actS c2 a.k a.b a.ix a.at_).1=c3 at q23 hf3 hF2
   generalize (actS c2 a.k a.b a.ix a.at_).2=e3 at q23 hF2
   unfold Ch.d at q23
   repeat' first | refine s_ ?_ | fail
   refine kp [(1,.d (.sl (aD l))),(2,.ref 0 0),(4,.ref 1 0),(5,.d (.int .i64 0)),(6,.d (.int .i64 0)),(8,.d (.int .i64 n)),(9,.d (.int .i64 (z:Int)))] ⟨rfl,rfl,rfl,rfl,rfl,rfl,rfl,trivial⟩ ?_
   refine (show GF _ _ _ _ ⟨_,[chD c2,zcel]⟩ from ?_)
   refine zo [] [9,10] [[chD c2,zcel],[chD c2,zcel,zcel],[chD c2,zcel,chD c3]] (hc:=?_)
   refine z3 (hc:=?_)
   iterate 2 refine zv (hc:=?_)
   refine zi (ix:=(z:Int)) (hd:=hpa) (hc:=?_)
   refine Z29 ?_
   refine zc (hcl:=q23) (hc:=?_)
   iterate 3 refine zv (hc:=?_)
   refine zm 0 (hc:=?_)
   refine zs 1 (hc:=?_)
   refine Z29 ?_;refine Z34 ?_
   repeat' first | refine s_ ?_ | fail
   refine d_ (fun hb=>?_) (fun hb=>?_)
   · have he3:e3=0:=by simpa using hb
     rw [if_pos he3] at hF2
     repeat' first | refine s_ ?_ | fail
     rw [show IntKind.i64.wrap ((z:Int) + 1)=((z + 1:Nat):Int) by rw [wrap_i64 (by omega) (by omega)];rfl]
     exact Y5
   · have he3:¬ e3=0:=by simpa using hb
     rw [if_neg he3] at hF2
     repeat' first | refine s_ ?_ | fail
     rw [show IntKind.i64.wrap ((z:Int) + 1)=((z + 1:Nat):Int) by rw [wrap_i64 (by omega) (by omega)];rfl]
     exact Y9
 · have hle:l.length≤z:=by have:=of_decide_eq_false hb;rw [aD_len] at this;omega
   rw [List.drop_eq_nil_of_le hle,playF] at hF2
   subst hF2
   repeat' first | refine s_ ?_ | fail
   refine Z15 ?_
   repeat' first | refine s_ ?_ | fail
   exact e_
end
section
theorem drain_fuel:∀ (n m:Nat) (c:Ch),c.Gd→muC c≤n→muC c≤m→drainF n c=drainF m c
 | 0,m,c,h,hn,hm=>by
  have he:c.tos=[]∧c.bak=[]:=by
   refine Classical.byContradiction fun he=>?_
   unfold muC at hn;rw [if_neg he] at hn;omega
  rw [drain_end _ he,drain_end _ he]
 | n + 1,m,c,h,hn,hm=>by
  by_cases he:c.tos=[]∧c.bak=[]
  · rw [drain_end _ he,drain_end _ he]
  · obtain ⟨k,hk,hd⟩:=drain_step h hm he
    have h1:=(round_ok h).2.2.2 he
    have e:drainF (n + 1) c=drainF n (roundC c):=by conv=>lhs;unfold drainF;rw [if_neg he]
    rw [hd,e]
    exact drain_fuel n k _ (round_ok h).1 (by omega) hk
variable {c:Ch}
theorem round_nil (he:c.tos=[]∧c.bak=[]):roundC c=c:=by
 have e1:allT c.tos.length c=c:=by rw [he.1];rfl
 have e2:allB c.bak.length c=c:=by rw [he.2];rfl
 unfold roundC
 rw [e1,e2]
theorem drain_round (h:c.Gd):drainS (roundC c)=drainS c:=by
 by_cases he:c.tos=[]∧c.bak=[]
 · rw [round_nil he]
 · obtain ⟨k,hk,hd⟩:=drain_step h (Nat.le_refl _) he
   show drainF _ _=drainF _ _
   rw [hd]
   exact drain_fuel _ _ _ (round_ok h).1 (Nat.le_refl _) hk
theorem settle_round (h:c.Gd) (n t:Nat) (last:Int×Int):settleF n t last (roundC c)=settleF n t last c:=by
 cases n with
 | zero=>rfl
 | succ n=>unfold settleF;rw [drain_round h]
theorem settle_few:∀ (n t:Nat) (last:Int×Int) (c:Ch),c.Gd→(settleF n t last c).1.Few
 | 0,_,_,_,_=>⟨Nat.zero_le _,Nat.zero_le _,Nat.zero_le _,Nat.zero_le _,Nat.zero_le _,Nat.zero_le _⟩
 | n + 1,t,last,c,h=>by
  have hd:(drainS c).Gd:=(drain_ok (muC c) (Nat.le_refl _) h).1
  unfold settleF
  split
  · exact hd.few
  · split
    · exact ⟨Nat.zero_le _,Nat.zero_le _,Nat.zero_le _,Nat.zero_le _,Nat.zero_le _,Nat.zero_le _⟩
    · exact settle_few n _ _ _ (gd_tick hd)
theorem settleS_few (hc:c.Few):(settleS c).1.Few:=by
 unfold settleS
 cases hk:chkC c with
 | true=>rw [if_pos rfl];exact ⟨Nat.zero_le _,Nat.zero_le _,Nat.zero_le _,Nat.zero_le _,Nat.zero_le _,Nat.zero_le _⟩
 | false=>rw [if_neg (by decide)];exact settle_few _ _ _ _ (gd_of hc hk)
theorem playF_few:∀ (l:List Ac) (s:Ch×Int),s.1.Few→(playF l s).1.Few
 | [],_,h=>h
 | a :: r,s,h=>by
  unfold playF
  split
  · exact playF_few r _ (actS_fewF h _ _ _ _)
  · exact playF_few r _ h
theorem playS_few (hc:c.Few) (l:List Ac):(playS c l).1.Few:=by
 unfold playS
 split
 · exact ⟨Nat.zero_le _,Nat.zero_le _,Nat.zero_le _,Nat.zero_le _,Nat.zero_le _,Nat.zero_le _⟩
 · exact playF_few l _ hc
theorem act_t (h:c.Gd) {x:ByteArray} {r:List ByteArray} (ht:c.tos=x :: r):actS c 1 false 0 0=(rcvC { c with tos:=c.tos.eraseIdx 0 } x,0):=by
 unfold actS
 rw [chk_of h,if_neg (by decide),if_neg (by decide),if_neg (by decide),if_neg (by show ¬ ((0:Int) < 0∨(c.tos.length:Int)≤0);rw [ht];simp only [List.length_cons];omega)]
 have hx:(flt c false).getD (Int.toNat 0) ByteArray.empty=x:=by
  show c.tos.getD 0 _=_
  rw [ht];rfl
 rw [hx]
 rfl
theorem act_b (h:c.Gd) {x:ByteArray} {r:List ByteArray} (ht:c.bak=x :: r):actS c 1 true 0 0=(ackC { c with bak:=c.bak.eraseIdx 0 } x,0):=by
 unfold actS
 rw [chk_of h,if_neg (by decide),if_neg (by decide),if_neg (by decide),if_neg (by show ¬ ((0:Int) < 0∨(c.bak.length:Int)≤0);rw [ht];simp only [List.length_cons];omega)]
 have hx:(flt c true).getD (Int.toNat 0) ByteArray.empty=x:=by
  show c.bak.getD 0 _=_
  rw [ht];rfl
 rw [hx]
 rfl
theorem act_5 (h:c.Gd):actS c 5 false 0 0=(tickC c,0):=by
 unfold actS
 rw [chk_of h,if_neg (by decide),if_neg (by decide),if_pos rfl]
set_option maxRecDepth 100000 in
theorem c31 (c:Ch) (hc:c.Few):Pf Tryd.prog 31 [c.d] (.tup [.d (settleS c).1.d,.d (.int .i64 (settleS c).2.1),.d (.int .i64 (settleS c).2.2)]):=by
 have hc':=hc
 obtain ⟨h0,h1,h2,h3,h4,h5⟩:=hc'
 have q17:=c17 c (by omega) (by omega) (by omega) (by omega) (by omega) (by omega)
 have q42:=c42 c hc
 unfold settleS
 cases hk:chkC c with
 | true=>
  rw [if_pos hk] at q17
  rw [if_pos rfl]
  unfold Ch.d at q17 ⊢
  refine pfb Tryd.func31 Tryd.ntmps31 Tryd.results31 (fun S0 O0 w0 m0 hm0=>?_)
  repeat' first | refine s_ ?_ | refine c_ q17 ?_ | fail
  refine Z16 ?_
  repeat' first | refine s_ ?_ | fail
  exact e_
 | false=>
 have hg:=gd_of hc hk
 rw [if_neg (by rw [hk];decide)] at q17
 rw [if_neg (by decide)]
 generalize hF:settleF 20001 0 (-1,-1) c=F
 unfold Ch.d at q17 q42 ⊢
 refine pfb Tryd.func31 Tryd.ntmps31 Tryd.results31 (fun S0 O0 w0 m0 hm0=>?_)
 repeat' first | refine s_ ?_ | refine c_ q17 ?_ | fail
 refine Z1 ?_
 repeat' first | refine s_ ?_ | fail
 refine cn (by exact rfl) q42 (r':=.agg (ChA c p0 4 5 7 8 9 6)) (mem':=(chD c :: zcel :: unk 10 :: unk 10 :: ChRr c p0)) ?_ rfl ?_
 rotate_left
 · rw [List.map_append,ChRr_rens];rfl
 repeat' first | refine s_ ?_ | fail
 refine kp [(1,.ref 0 0),(2,.ref 1 0),(3,.d (.int .i64 0)),(4,.d (.int .i64 0)),(6,.d (.int .i64 0)),(7,.d (.int .i64 (-1))),(8,.d (.int .i64 (-1)))] ⟨rfl,rfl,rfl,rfl,rfl,rfl,rfl,trivial⟩ ?_
 refine Z0 ?_;refine Z2 ?_
 refine gLo (fun x:Nat×Ch×Int×Int=>⟨[(1,.ref 0 0),(2,.ref 1 0),(3,.d (.int .i64 0)),(4,.d (.int .i64 0)),(6,.d (.int .i64 (x.1:Int))),(7,.d (.int .i64 x.2.2.1)),(8,.d (.int .i64 x.2.2.2))],[chD x.2.1,zcel]⟩) (fun x=>(20001 - x.1) * 30000 + muC x.2.1) (fun x=>x.1≤20000∧x.2.1.Gd∧(x.1=0→x.2.2.1=-1)∧settleF (20001 - x.1) x.1 (x.2.2.1,x.2.2.2) x.2.1=F) (0,c,-1,-1) ⟨Nat.zero_le _,hg,fun _=>rfl,hF⟩ ?_ (fun x hx Q' hn he hr hp=>?_)
 · exact Le_0 hm0 (.cons CSa (.cons CSa .nil)) SSa
 obtain ⟨tk,c1,l1,l2⟩:=x
 obtain ⟨htk,hg1,hl1,hF1⟩:tk≤20000∧c1.Gd∧(tk=0→l1=-1)∧settleF (20001 - tk) tk (l1,l2) c1=F:=hx
 obtain ⟨f1,f2,_⟩:=allT_ok c1.tos.length c1 (Nat.le_refl _) hg1
 obtain ⟨g1,g2,g3,g4⟩:=round_ok hg1
 refine (show GF _ _ _ _ ⟨[(1,.ref 0 0),(2,.ref 1 0),(3,.d (.int .i64 0)),(4,.d (.int .i64 0)),(6,.d (.int .i64 (tk:Int))),(7,.d (.int .i64 l1)),(8,.d (.int .i64 l2))],[chD c1,zcel]⟩ from ?_)
 repeat' first | refine s_ ?_ | fail
 refine gLo (fun y:Ch=>⟨[(1,.ref 0 0),(2,.ref 1 0),(3,.d (.int .i64 0)),(4,.d (.int .i64 0)),(6,.d (.int .i64 (tk:Int))),(7,.d (.int .i64 l1)),(8,.d (.int .i64 l2))],[chD y,zcel]⟩) (fun y=>y.tos.length) (fun y=>y.Gd∧allT y.tos.length y=allT c1.tos.length c1) c1 ⟨hg1,rfl⟩ ?_ (fun y hy Q2 hn2 he2 hr2 hp2=>?_)
 · exact Le_0 hm0 (.cons CSa (.cons CSa .nil)) SSa
 obtain ⟨hgy,hey⟩:=hy
 repeat' first | refine s_ ?_ | fail
 refine d_ (fun hb=>?_) (fun hb=>?_)
 · have hpos:0 < y.tos.length:=by have:=oR hb;rw [List.length_map] at this;omega
   rcases hw:y.tos with _ | ⟨x,r⟩
   · rw [hw] at hpos;exact absurd hpos (by decide)
   have q23:=c23F y 1 false 0 0 hgy.few
   rw [act_t hgy hw] at q23
   have hl2:y.tos.length=r.length + 1:=by rw [hw];rfl
   have hge:=gd_rcv (gd_hd hgy) x
   have htos:(rcvC { y with tos:=y.tos.eraseIdx 0 } x).tos=r:=by
    rw [(rcvC_tos _ _).1]
    show y.tos.eraseIdx 0=r
    rw [hw];rfl
   have hey2:allT (rcvC { y with tos:=y.tos.eraseIdx 0 } x).tos.length (rcvC { y with tos:=y.tos.eraseIdx 0 } x)=allT c1.tos.length c1:=by
    rw [← hey,htos,hl2]
    conv=>rhs;unfold allT
    simp only [hw]
   generalize rcvC { y with tos:=y.tos.eraseIdx 0 } x=y2 at q23 hge htos hey2
   unfold ActR acD Ch.d at q23
   repeat' first | refine s_ ?_ | refine c_ q23 ?_ | fail
   exact toL (hn2 _ y2 ⟨hge,hey2⟩ (by rw [htos];omega) (Le_0 hm0 (.cons CSa (.cons CSa .nil)) SSa))
 have hty:y.tos=[]:=by
  have:=of_decide_eq_false hb;rw [List.length_map] at this
  exact Y4
 have hye:y=allT c1.tos.length c1:=by rw [← hey,hty];rfl
 repeat' first | refine s_ ?_ | fail
 refine toL (he2 _ _ ?_)
 repeat' first | refine s_ ?_ | fail
 refine gLo (fun z:Ch=>⟨[(1,.ref 0 0),(2,.ref 1 0),(3,.d (.int .i64 0)),(4,.d (.int .i64 0)),(6,.d (.int .i64 (tk:Int))),(7,.d (.int .i64 l1)),(8,.d (.int .i64 l2))],[chD z,zcel]⟩) (fun z=>z.bak.length) (fun z=>z.Gd∧allB z.bak.length z=roundC c1) y ⟨hgy,by rw [hye];rfl⟩ ?_ (fun z hz Q3 hn3 he3 hr3 hp3=>?_)
 · exact Le_0 hm0 (.cons CSa (.cons CSa .nil)) SSa
 obtain ⟨hgz,hez⟩:=hz
 repeat' first | refine s_ ?_ | fail
 refine d_ (fun hb=>?_) (fun hb=>?_)
 · have hpos:0 < z.bak.length:=by have:=oR hb;rw [List.length_map] at this;omega
   rcases hw:z.bak with _ | ⟨x,r⟩
   · rw [hw] at hpos;exact absurd hpos (by decide)
   have q23:=c23F z 1 true 0 0 hgz.few
   rw [act_b hgz hw] at q23
   have hl2:z.bak.length=r.length + 1:=by rw [hw];rfl
   have hge:=gd_ack (gd_hb hgz) x
   have hbk:(ackC { z with bak:=z.bak.eraseIdx 0 } x).bak=r:=by
    rw [ackC_bak]
    show z.bak.eraseIdx 0=r
    rw [hw];rfl
   have hez2:allB (ackC { z with bak:=z.bak.eraseIdx 0 } x).bak.length (ackC { z with bak:=z.bak.eraseIdx 0 } x)=roundC c1:=by
    rw [← hez,hbk,hl2]
    conv=>rhs;unfold allB
    simp only [hw]
   generalize ackC { z with bak:=z.bak.eraseIdx 0 } x=z2 at q23 hge hbk hez2
   unfold ActR acD Ch.d at q23
   repeat' first | refine s_ ?_ | refine c_ q23 ?_ | fail
   exact toL (hn3 _ z2 ⟨hge,hez2⟩ (by rw [hbk];omega) (Le_0 hm0 (.cons CSa (.cons CSa .nil)) SSa))
 have hbz:z.bak=[]:=by
  have:=of_decide_eq_false hb;rw [List.length_map] at this
  exact Y4
 have hze:roundC c1=z:=by rw [← hez,hbz];rfl
 rw [hze] at g3 g4
 have hdr:=drain_round hg1
 have hsr:=settle_round hg1
 rw [hze] at hdr hsr
 repeat' first | refine s_ ?_ | fail
 refine toL (he3 _ _ ?_)
 repeat' first | refine s_ ?_ | fail
 refine d_ (fun hb=>?_) (fun hb=>?_)
 · have hpos:0 < z.tos.length:=by have:=oR hb;rw [List.length_map] at this;omega
   have hne:¬ (c1.tos=[]∧c1.bak=[]):=by
    intro h
    rw [round_nil h] at hze
    rw [← hze,h.1] at hpos
    exact absurd hpos (by decide)
   have hlt:=g4 hne
   repeat' first | refine s_ ?_ | fail
   exact toL (hn _ (tk,z,l1,l2) ⟨htk,hgz,hl1,(hsr _ _ _).trans hF1⟩ (by dsimp only;omega) (Le_0 hm0 (.cons CSa (.cons CSa .nil)) SSa))
 have htz:z.tos=[]:=by
  have:=of_decide_eq_false hb;rw [List.length_map] at this
  exact Y4
 have hdz:drainS c1=z:=by rw [← hdr];exact drain_end _ ⟨htz,hbz⟩
 have hF2:settleF (20000 - tk + 1) tk (l1,l2) c1=F:=by rw [show 20000 - tk + 1=20001 - tk by omega];exact hF1
 unfold settleF at hF2
 rw [hdz] at hF2
 repeat' first | refine s_ ?_ | fail
 refine d_ (fun hb=>?_) (fun hb=>?_)
 · have hu:z.una=[]:=by
    have h:((z.una.map D.str).length:Int)=0:=by simpa using hb
    rw [List.length_map] at h
    exact Y4
   rw [if_pos hu] at hF2
   subst hF2
   repeat' first | refine s_ ?_ | fail
   refine Z28 ?_
   repeat' first | refine s_ ?_ | fail
   exact e_
 have hu:¬ z.una=[]:=by
  intro h
  rw [h] at hb
  exact absurd hb (by decide)
 rw [if_neg hu] at hF2
 repeat' first | refine s_ ?_ | fail
 refine d_ (fun hb=>?_) (fun hb=>?_)
 · have h20:tk=20000∨(z.base=l1∧z.exp=l2):=by
    rw [Bool.or_eq_true,Bool.and_eq_true,Bool.and_eq_true] at hb
    rcases hb with hb | ⟨⟨_,e1⟩,e2⟩
    · left
      have:(tk:Int)=20000:=by simpa using hb
      omega
    · right
      have e1':l1=z.base:=by simpa using e1
      have e2':l2=z.exp:=by simpa using e2
      exact ⟨e1'.symm,e2'.symm⟩
   rw [if_pos h20] at hF2
   subst hF2
   repeat' first | refine s_ ?_ | fail
   refine Z28 ?_
   repeat' first | refine s_ ?_ | fail
   exact e_
 have h20:¬ (tk=20000∨(z.base=l1∧z.exp=l2)):=by
  rintro (h | ⟨h,h'⟩)
  · rw [h] at hb
    simp at hb
  · have ht:tk ≠ 0:=by
     intro e
     have e1:=hl1 e
     have e2:=hgz.base0
     omega
    rw [h,h'] at hb
    have e3:(decide ((tk:Int) > 0) && l1 == l1 && l2 == l2)=true:=by simp;omega
    rw [e3,Bool.or_true] at hb
    cases hb
 rw [if_neg h20] at hF2
 have q23:=c23F z 5 false 0 0 hgz.few
 rw [act_5 hgz] at q23
 have hgt:=gd_tick hgz
 have hmt:muC (tickC z)≤20001:=by
  have h1:(tickC z).wai.length≤20000:=(sm_of hgt.few (chk_of hgt)).wai
  unfold muC
  split<;>omega
 generalize tickC z=z5 at q23 hgt hmt hF2
 unfold ActR acD Ch.d at q23
 repeat' first | refine s_ ?_ | fail
 refine Z9 ?_
 iterate 6 refine ov (hc:=?_)
 refine Z7 ?_
 repeat' first | refine s_ ?_ | refine c_ q23 ?_ | fail
 rw [show IntKind.i64.wrap ((tk:Int) + 1)=((tk + 1:Nat):Int) by rw [wrap_i64 (by omega) (by omega)];rfl]
 have htk2:tk + 1≤20000:=by omega
 exact toL (hn _ (tk + 1,z5,z.base,z.exp) ⟨htk2,hgt,fun h=>by omega,by show settleF (20001 - (tk + 1)) (tk + 1) _ _=_;rw [show 20001 - (tk + 1)=20000 - tk by omega];exact hF2⟩ (by dsimp only;omega) (Le_0 hm0 (.cons CSa (.cons CSa .nil)) SSa))
end
section
set_option maxRecDepth 100000 in
theorem c7 (c:Ch) (l:List Ac) (h0:c.una.length≤140737488355328) (h1:c.wai.length≤140737488355328) (h2:c.ear.length≤140737488355328) (h3:c.del.length≤140737488355328) (h4:c.tos.length≤140737488355328) (h5:c.bak.length≤140737488355328):PL 7 [c.d,.sl (aD l)] (.d (.bool true)):=by
 have q14:=c14 c (by omega) (by omega) (by omega) (by omega) (by omega) (by omega)
 unfold Ch.d at q14 ⊢
 refine plB Tryd.func7 Tryd.ntmps7 Tryd.results7 (fun S0 O0 w0 m0 hL hm0=>?_)
 repeat' first | refine s_ ?_ | refine c_ q14 ?_ | fail
 refine d_ (fun hb=>?_) (fun hb=>?_)
 · repeat' first | refine s_ ?_ | refine c_ c9 ?_ | fail
   exact e_
 have hsm:smaB c=true:=by
  cases hq:smaB c with
  | true=>rfl
  | false=>rw [hq] at hb;simp at hb
 rw [hsm] at hb
 have hl:l.length≤60:=by
  have h:decide (((aD l).length:Int) > 60)=false:=by simpa using hb
  have:=of_decide_eq_false h
  rw [aD_len] at this
  omega
 have hs:=sma_of hsm
 have hc:=hs.few
 have g3:=hs.ear
 have q15:=c15 c (by omega)
 have q22:=c22 l (by omega)
 have q28:PL 28 [c.d,.sl (aD l)] (.tup ([(playS c l).1.d,D.int .i64 (playS c l).2,D.int .i64 (playE c)].map .d)):=c28 c l hc (by omega)
 have q29:=c29 c l hc (by omega)
 have q30:=c30 c hc
 have q31:=c31 c hc
 have q20:=c20 (playS c l).1 (playS_few hc l)
 have q20b:=c20 (settleS c).1 (settleS_few hc)
 generalize (playS c l).1=ys at q28 q29 q20
 generalize (playS c l).2=yn at q28 q29
 generalize playE c=ye at q28 q29
 generalize (settleS c).1=sx at q30 q31 q20b
 generalize (settleS c).2.1=zn at q30 q31
 generalize (settleS c).2.2=ze1 at q30 q31
 unfold Ch.d at q15 q28 q29 q30 q31 q20 q20b
 repeat' first | refine s_ ?_ | refine c_ q15 ?_ | fail
 refine kp [(1,.d (.sl (aD l))),(2,.ref 0 0),(4,.d (.bool false)),(5,.ref 1 0)] ⟨rfl,rfl,rfl,rfl,trivial⟩ ?_
 refine (show GF _ _ _ _ ⟨_,[chD c,chD c]⟩ from ?_)
 refine zo [] [8,9] [[chD c,chD c],[chD c,chD c,zcel],[chD c,chD c,chD ys]] (hc:=?_)
 refine z3 (hc:=?_)
 refine Z29 ?_
 refine zc (hcl:=q22) (hc:=?_)
 refine zcl hL (by exact rfl) (by exact rfl) (by exact fun _=>rfl) q28 (by exact rfl) ?_
 iterate 4 refine zv (hc:=?_)
 refine zm 0 (hc:=?_)
 refine zs 1 (hc:=?_)
 iterate 2 refine zv (hc:=?_)
 refine Z34 ?_
 repeat' first | refine s_ ?_ | refine c_ q29 ?_ | refine clg (by exact rfl) (fun _=>q20) ?_ | fail
 refine cf (by exact rfl) ?_ (by simp)
 repeat' first | refine s_ ?_ | refine clL hL (by exact rfl) q30 ?_ | refine c_ q31 ?_ | refine clg (by exact rfl) (fun _=>q20b) ?_ | refine clg (by exact rfl) (fun _=>c9) ?_ | fail
 exact en (by exact rfl) (by simp)
end
end Go.Proofs.YtoonleefemkalaaDoor
