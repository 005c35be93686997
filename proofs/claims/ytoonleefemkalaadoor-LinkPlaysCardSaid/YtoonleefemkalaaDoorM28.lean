import Derived.Test.YtoonleefemkalaaDoorM26
import Derived.Test.YtoonleefemkalaaDoorM27
import Derived.Test.YtoonleefemkalaaDoorM17
import Derived.Test.YtoonleefemkalaaDoorM24
/- Contracts of functions. Conditions: none. -/
set_option linter.unusedSimpArgs false
set_option linter.unusedVariables false
set_option maxRecDepth 20000
namespace Go.Proofs.YtoonleefemkalaaDoor
open Go Go.Proofs.YtoonleefemkalaaDoor.E
section
theorem c21e1 (c:Ch) (k:Int) (b:Bool) (ix at_:Int) (hc:c.Few) (hk:chkC c=true):Pf Tryd.prog 21 [c.d,acD k b ix at_] (.tup [.d zeroC.d,.d (.int .i64 331)]):=by
 have hc':=hc
 obtain ⟨g0,g1,g2,g3,g4,g5⟩:=hc'
 have q16:=c16 c (by omega) (by omega) (by omega) (by omega) (by omega) (by omega)
 rw [hk] at q16
 unfold acD
 unfold Ch.d at q16 ⊢
 refine pfb Tryd.func21 Tryd.ntmps21 Tryd.results21 (fun S0 O0 w0 m0 hm0=>?_)
 repeat' first | refine s_ ?_ | refine c_ q16 ?_ | fail
 refine Z16 ?_
 repeat' first | refine s_ ?_ | fail
 exact e_
theorem c21e2 (c:Ch) (k:Int) (b:Bool) (ix at_:Int) (hc:c.Few) (hk:chkC c=false) (h:k < 1∨5 < k):Pf Tryd.prog 21 [c.d,acD k b ix at_] (.tup [.d zeroC.d,.d (.int .i64 1)]):=by
 have hc':=hc
 obtain ⟨g0,g1,g2,g3,g4,g5⟩:=hc'
 have q16:=c16 c (by omega) (by omega) (by omega) (by omega) (by omega) (by omega)
 rw [hk] at q16
 unfold acD
 unfold Ch.d at q16 ⊢
 refine pfb Tryd.func21 Tryd.ntmps21 Tryd.results21 (fun S0 O0 w0 m0 hm0=>?_)
 repeat' first | refine s_ ?_ | refine c_ q16 ?_ | fail
 refine Z1 ?_
 repeat' first | refine s_ ?_ | fail
 refine ct (by exact rfl) ?_ (by rcases h with h | h<;>simp [h])
 repeat' first | refine s_ ?_ | fail
 exact e_
theorem c21e3t (c:Ch) (k ix at_:Int) (hc:c.Few) (hk:chkC c=false) (h1:1≤k) (h4:k≤4) (h:ix < 0∨(c.tos.length:Int)≤ix):Pf Tryd.prog 21 [c.d,acD k false ix at_] (.tup [.d zeroC.d,.d (.int .i64 4)]):=by
 have hc':=hc
 obtain ⟨g0,g1,g2,g3,g4,g5⟩:=hc'
 have q16:=c16 c (by omega) (by omega) (by omega) (by omega) (by omega) (by omega)
 rw [hk] at q16
 have q44:=c44Dt c k ix at_
 have hk5:(k != 5)=true:=by simp;omega
 unfold acD at q44 ⊢
 unfold Ch.d at q16 ⊢
 refine pfb Tryd.func21 Tryd.ntmps21 Tryd.results21 (fun S0 O0 w0 m0 hm0=>?_)
 repeat' first | refine s_ ?_ | refine c_ q16 ?_ | fail
 refine Z1 ?_
 repeat' first | refine s_ ?_ | fail
 refine cf (by exact rfl) ?_ (by simp;omega)
 repeat' first | refine s_ ?_ | fail
 refine Z38 ?_
 iterate 10 refine ov (hc:=?_)
 by_cases hix:ix < 0
 · have hgf:(k != 5 && !decide (ix < 0))=false:=by simp [hix]
   refine oStep (p:=.when (k != 5 && !decide (ix < 0)) (.d (.agg [.int .i64 k,.bool false,.int .i64 ix,.int .i64 at_]))) (by exact rfl) (by exact rfl) (by exact rfl) ?_ (fun rest _ hg=>gSk _ (by exact rfl) hgf hg)
   refine oStep (p:=.when (k != 5 && !decide (ix < 0)) (.ref 0 8)) (by exact rfl) (by exact rfl) (by exact rfl) ?_ (fun rest _ hg=>gSk _ (by exact rfl) hgf hg)
   iterate 6 refine ov (hc:=?_)
   refine Z36 ?_
   refine ct (by exact rfl) ?_ (by simp [hix,hk5])
   repeat' first | refine s_ ?_ | fail
   exact e_
 · have hgd:(k != 5 && decide (ix < 0) == false)=true:=by rw [hk5];simp;omega
   refine oStep (p:=.d (.agg [.int .i64 k,.bool false,.int .i64 ix,.int .i64 at_])) (by exact rfl) (by exact rfl) (by exact rfl) ?_ (fun rest _ hg=>gOn (by exact rfl) hgd rfl rfl rfl rfl rfl (oR rfl) (st (by exact rfl) (gOnEnd hg)))
   refine oStep (p:=.ref 0 8) (by exact rfl) (by exact rfl) (by exact rfl) ?_ (fun rest _ hg=>gOn (by exact rfl) hgd rfl rfl rfl rfl rfl (oR rfl) (cs [0] (by exact rfl) q44 (gOnEnd hg)))
   iterate 6 refine ov (hc:=?_)
   refine Z36 ?_
   refine ct (by exact rfl) ?_ (by rw [hk5,List.length_map];simp;omega)
   repeat' first | refine s_ ?_ | fail
   exact e_
theorem c21e3b (c:Ch) (k ix at_:Int) (hc:c.Few) (hk:chkC c=false) (h1:1≤k) (h4:k≤4) (h:ix < 0∨(c.bak.length:Int)≤ix):Pf Tryd.prog 21 [c.d,acD k true ix at_] (.tup [.d zeroC.d,.d (.int .i64 4)]):=by
 have hc':=hc
 obtain ⟨g0,g1,g2,g3,g4,g5⟩:=hc'
 have q16:=c16 c (by omega) (by omega) (by omega) (by omega) (by omega) (by omega)
 rw [hk] at q16
 have q44:=c44Db c k ix at_
 have hk5:(k != 5)=true:=by simp;omega
 unfold acD at q44 ⊢
 unfold Ch.d at q16 ⊢
 refine pfb Tryd.func21 Tryd.ntmps21 Tryd.results21 (fun S0 O0 w0 m0 hm0=>?_)
 repeat' first | refine s_ ?_ | refine c_ q16 ?_ | fail
 refine Z1 ?_
 repeat' first | refine s_ ?_ | fail
 refine cf (by exact rfl) ?_ (by simp;omega)
 repeat' first | refine s_ ?_ | fail
 refine Z38 ?_
 iterate 10 refine ov (hc:=?_)
 by_cases hix:ix < 0
 · have hgf:(k != 5 && !decide (ix < 0))=false:=by simp [hix]
   refine oStep (p:=.when (k != 5 && !decide (ix < 0)) (.d (.agg [.int .i64 k,.bool true,.int .i64 ix,.int .i64 at_]))) (by exact rfl) (by exact rfl) (by exact rfl) ?_ (fun rest _ hg=>gSk _ (by exact rfl) hgf hg)
   refine oStep (p:=.when (k != 5 && !decide (ix < 0)) (.ref 0 9)) (by exact rfl) (by exact rfl) (by exact rfl) ?_ (fun rest _ hg=>gSk _ (by exact rfl) hgf hg)
   iterate 6 refine ov (hc:=?_)
   refine Z36 ?_
   refine ct (by exact rfl) ?_ (by simp [hix,hk5])
   repeat' first | refine s_ ?_ | fail
   exact e_
 · have hgd:(k != 5 && decide (ix < 0) == false)=true:=by rw [hk5];simp;omega
   refine oStep (p:=.d (.agg [.int .i64 k,.bool true,.int .i64 ix,.int .i64 at_])) (by exact rfl) (by exact rfl) (by exact rfl) ?_ (fun rest _ hg=>gOn (by exact rfl) hgd rfl rfl rfl rfl rfl (oR rfl) (st (by exact rfl) (gOnEnd hg)))
   refine oStep (p:=.ref 0 9) (by exact rfl) (by exact rfl) (by exact rfl) ?_ (fun rest _ hg=>gOn (by exact rfl) hgd rfl rfl rfl rfl rfl (oR rfl) (cs [0] (by exact rfl) q44 (gOnEnd hg)))
   iterate 6 refine ov (hc:=?_)
   refine Z36 ?_
   refine ct (by exact rfl) ?_ (by rw [hk5,List.length_map];simp;omega)
   repeat' first | refine s_ ?_ | fail
   exact e_
set_option maxRecDepth 100000 in
theorem c21_5t (c c':Ch) (ix at_ e:Int) (hc:c.Few) (hk:chkC c=false) (hm:Mt 49 [.ref 0 0,.d (acD 5 false ix at_)] c (.d (.int .i64 e)) c'):Pf Tryd.prog 21 [c.d,acD 5 false ix at_] (.tup [.d (if e=0 then c' else zeroC).d,.d (.int .i64 e)]):=by
 have hc':=hc
 obtain ⟨g0,g1,g2,g3,g4,g5⟩:=hc'
 have q16:=c16 c (by omega) (by omega) (by omega) (by omega) (by omega) (by omega)
 rw [hk] at q16
 have q40:=c40 c hc
 have q44:=c44Dt c 5 ix at_
 unfold acD at q44 hm ⊢
 unfold Ch.d at q16 q40 ⊢
 refine pfb Tryd.func21 Tryd.ntmps21 Tryd.results21 (fun S0 O0 w0 m0 hm0=>?_)
 repeat' first | refine s_ ?_ | refine c_ q16 ?_ | fail
 refine Z1 ?_
 repeat' first | refine s_ ?_ | fail
 refine Z1 ?_
 repeat' first | refine s_ ?_ | fail
 have hgf:((5:Int) != 5 && decide (ix < 0) == false)=false:=by simp
 refine Z38 ?_
 iterate 10 refine ov (hc:=?_)
 refine oStep (p:=.when ((5:Int) != 5 && decide (ix < 0) == false) (.d (.agg [.int .i64 5,.bool false,.int .i64 ix,.int .i64 at_]))) (by exact rfl) (by exact rfl) (by exact rfl) ?_ (fun rest _ hg=>gSk _ (by exact rfl) hgf hg)
 refine oStep (p:=.when ((5:Int) != 5 && decide (ix < 0) == false) (.ref 0 8)) (by exact rfl) (by exact rfl) (by exact rfl) ?_ (fun rest _ hg=>gSk _ (by exact rfl) hgf hg)
 iterate 6 refine ov (hc:=?_)
 refine Z36 ?_
 refine cf (by exact rfl) ?_ (by simp)
 repeat' first | refine s_ ?_ | fail
 refine cn (by exact rfl) q40 (r':=.agg (ChA c p0 6 7 8 9 10 11)) (mem':=(chD c :: [.d (.int .i64 5),.d (.bool false),.d (.int .i64 ix),.d (.int .i64 at_)] :: zcel :: unk 10 :: unk 10 :: unk 5 :: ChR c p0)) ?_ rfl (by rw [List.map_append,ChR_rens];rfl)
 repeat' first | refine s_ ?_ | fail
 refine Z3 ?_
 refine (show GF _ _ _ _ ⟨_,ChA c p0 6 7 8 9 10 11 :: [.d (.int .i64 5),.d (.bool false),.d (.int .i64 ix),.d (.int .i64 at_)] :: zcel :: unk 10 :: unk 10 :: unk 5 :: (ChR c p0++[[.d .nilF,.d (.fn (.func 45) [] []),.d (.fn (.func 46) [] []),.d (.fn (.func 47) [] []),.d (.fn (.func 48) [] []),.d (.fn (.func 49) [] [])]])⟩ from ?_)
 refine tab5 5 51 [(0,46,.ref 1 0),(1,47,.d (.int .i64 5)),(2,48,.ref 12 (0 + (5:Int).toNat * 1)),(3,49,.d (.fn (.func 49) [] [])),(4,50,.d (.agg [.int .i64 5,.bool false,.int .i64 ix,.int .i64 at_]))] [(6,8,.d (.int .i64 e))] [0,1,2,3,4,6] (by exact rfl) (by exact rfl) (fun rest=>rfl) hm p0_ok (fun a=>?_) (fun p' hp'=>?_)
 · refine ⟨?_,?_,?_,?_,?_,?_,trivial⟩
   iterate 2 exact ta_
   · exact tav (pre:=(47,.d (.int .i64 5)) :: [(2,.ref 0 0),(3,.ref 1 0),(4,.ref 2 0),(7,.ref 12 0)]) rfl rfl rfl rfl (by kernel_rfl) (fun _=>rfl) (fun rest ht=>by exact Q_arrAddr (b:=12) (o:=0) (m:=1) (k:=.i64) (i:=5) rfl rfl und91 (by kernel_rfl) (by decide) (by decide))
   · exact tav (pre:=(48,.ref 12 (0 + (5:Int).toNat * 1)) :: [(2,.ref 0 0),(3,.ref 1 0),(4,.ref 2 0),(7,.ref 12 0)]) rfl rfl rfl rfl (by kernel_rfl) (fun _=>rfl) (fun rest ht=>by exact Q_load_leaf (b:=12) (off:=0 + (5:Int).toNat * 1) (p:=.d (.fn (.func 49) [] [])) rfl rfl rfl und88 rfl rfl rfl ht)
   · exact ta_
   · exact tq3 (by exact rfl) (by exact rfl) rfl rfl (by exact fun _ _=>rfl)
 · refine s_ ?_
   refine Z5 ?_
   repeat' first | refine s_ ?_ | fail
   refine d_ (fun hb=>?_) (fun hb=>?_)
   · have he:¬ e=0:=by simpa using hb
     rw [if_neg he]
     repeat' first | refine s_ ?_ | fail
     exact e_
   · have he:e=0:=by simpa using hb
     subst he
     rw [if_pos rfl]
     refine Z11 ?_
     refine fg 12 (by exact rfl) ?_ rfl (by omega) (by show (PV.refsBs 12 (ChA c' p' 6 7 8 9 10 11) && (PV.refsBs 12 _ && (PV.refsBs 12 _ && (PV.refsBs 12 _ && (PV.refsBs 12 _ && (PV.refsBs 12 _ && (ChR c' p').all (PV.refsBs 12)))))))=true;rw [ChR_refs];rfl)
     refine (show GF _ _ _ _ ⟨_,ChA c' p' 6 7 8 9 10 11 :: [.d (.int .i64 5),.d (.bool false),.d (.int .i64 ix),.d (.int .i64 at_)] :: zcel :: unk 10 :: unk 10 :: unk 5 :: ChR c' p'⟩ from ?_)
     refine gChD5 hp' ?_ (by show m0.length≤6;omega)
     repeat' first | refine s_ ?_ | fail
     exact e_
set_option maxRecDepth 100000 in
theorem c21_5b (c c':Ch) (ix at_ e:Int) (hc:c.Few) (hk:chkC c=false) (hm:Mt 49 [.ref 0 0,.d (acD 5 true ix at_)] c (.d (.int .i64 e)) c'):Pf Tryd.prog 21 [c.d,acD 5 true ix at_] (.tup [.d (if e=0 then c' else zeroC).d,.d (.int .i64 e)]):=by
 have hc':=hc
 obtain ⟨g0,g1,g2,g3,g4,g5⟩:=hc'
 have q16:=c16 c (by omega) (by omega) (by omega) (by omega) (by omega) (by omega)
 rw [hk] at q16
 have q40:=c40 c hc
 have q44:=c44Db c 5 ix at_
 unfold acD at q44 hm ⊢
 unfold Ch.d at q16 q40 ⊢
 refine pfb Tryd.func21 Tryd.ntmps21 Tryd.results21 (fun S0 O0 w0 m0 hm0=>?_)
 repeat' first | refine s_ ?_ | refine c_ q16 ?_ | fail
 refine Z1 ?_
 repeat' first | refine s_ ?_ | fail
 refine Z1 ?_
 repeat' first | refine s_ ?_ | fail
 have hgf:((5:Int) != 5 && decide (ix < 0) == false)=false:=by simp
 refine Z38 ?_
 iterate 10 refine ov (hc:=?_)
 refine oStep (p:=.when ((5:Int) != 5 && decide (ix < 0) == false) (.d (.agg [.int .i64 5,.bool true,.int .i64 ix,.int .i64 at_]))) (by exact rfl) (by exact rfl) (by exact rfl) ?_ (fun rest _ hg=>gSk _ (by exact rfl) hgf hg)
 refine oStep (p:=.when ((5:Int) != 5 && decide (ix < 0) == false) (.ref 0 9)) (by exact rfl) (by exact rfl) (by exact rfl) ?_ (fun rest _ hg=>gSk _ (by exact rfl) hgf hg)
 iterate 6 refine ov (hc:=?_)
 refine Z36 ?_
 refine cf (by exact rfl) ?_ (by simp)
 repeat' first | refine s_ ?_ | fail
 refine cn (by exact rfl) q40 (r':=.agg (ChA c p0 6 7 8 9 10 11)) (mem':=(chD c :: [.d (.int .i64 5),.d (.bool true),.d (.int .i64 ix),.d (.int .i64 at_)] :: zcel :: unk 10 :: unk 10 :: unk 5 :: ChR c p0)) ?_ rfl (by rw [List.map_append,ChR_rens];rfl)
 repeat' first | refine s_ ?_ | fail
 refine Z3 ?_
 refine (show GF _ _ _ _ ⟨_,ChA c p0 6 7 8 9 10 11 :: [.d (.int .i64 5),.d (.bool true),.d (.int .i64 ix),.d (.int .i64 at_)] :: zcel :: unk 10 :: unk 10 :: unk 5 :: (ChR c p0++[[.d .nilF,.d (.fn (.func 45) [] []),.d (.fn (.func 46) [] []),.d (.fn (.func 47) [] []),.d (.fn (.func 48) [] []),.d (.fn (.func 49) [] [])]])⟩ from ?_)
 refine tab5 5 51 [(0,46,.ref 1 0),(1,47,.d (.int .i64 5)),(2,48,.ref 12 (0 + (5:Int).toNat * 1)),(3,49,.d (.fn (.func 49) [] [])),(4,50,.d (.agg [.int .i64 5,.bool true,.int .i64 ix,.int .i64 at_]))] [(6,8,.d (.int .i64 e))] [0,1,2,3,4,6] (by exact rfl) (by exact rfl) (fun rest=>rfl) hm p0_ok (fun a=>?_) (fun p' hp'=>?_)
 · refine ⟨?_,?_,?_,?_,?_,?_,trivial⟩
   iterate 2 exact ta_
   · exact tav (pre:=(47,.d (.int .i64 5)) :: [(2,.ref 0 0),(3,.ref 1 0),(4,.ref 2 0),(7,.ref 12 0)]) rfl rfl rfl rfl (by kernel_rfl) (fun _=>rfl) (fun rest ht=>by exact Q_arrAddr (b:=12) (o:=0) (m:=1) (k:=.i64) (i:=5) rfl rfl und91 (by kernel_rfl) (by decide) (by decide))
   · exact tav (pre:=(48,.ref 12 (0 + (5:Int).toNat * 1)) :: [(2,.ref 0 0),(3,.ref 1 0),(4,.ref 2 0),(7,.ref 12 0)]) rfl rfl rfl rfl (by kernel_rfl) (fun _=>rfl) (fun rest ht=>by exact Q_load_leaf (b:=12) (off:=0 + (5:Int).toNat * 1) (p:=.d (.fn (.func 49) [] [])) rfl rfl rfl und88 rfl rfl rfl ht)
   · exact ta_
   · exact tq3 (by exact rfl) (by exact rfl) rfl rfl (by exact fun _ _=>rfl)
 · refine s_ ?_
   refine Z5 ?_
   repeat' first | refine s_ ?_ | fail
   refine d_ (fun hb=>?_) (fun hb=>?_)
   · have he:¬ e=0:=by simpa using hb
     rw [if_neg he]
     repeat' first | refine s_ ?_ | fail
     exact e_
   · have he:e=0:=by simpa using hb
     subst he
     rw [if_pos rfl]
     refine Z11 ?_
     refine fg 12 (by exact rfl) ?_ rfl (by omega) (by show (PV.refsBs 12 (ChA c' p' 6 7 8 9 10 11) && (PV.refsBs 12 _ && (PV.refsBs 12 _ && (PV.refsBs 12 _ && (PV.refsBs 12 _ && (PV.refsBs 12 _ && (ChR c' p').all (PV.refsBs 12)))))))=true;rw [ChR_refs];rfl)
     refine (show GF _ _ _ _ ⟨_,ChA c' p' 6 7 8 9 10 11 :: [.d (.int .i64 5),.d (.bool true),.d (.int .i64 ix),.d (.int .i64 at_)] :: zcel :: unk 10 :: unk 10 :: unk 5 :: ChR c' p'⟩ from ?_)
     refine gChD5 hp' ?_ (by show m0.length≤6;omega)
     repeat' first | refine s_ ?_ | fail
     exact e_
end
section
def flt (c:Ch) (b:Bool):List ByteArray:=if b=true then c.bak else c.tos
def actK (c:Ch) (k:Int) (b:Bool) (i:Nat) (at_:Int) (x:ByteArray):Ch×Int:=
 if k=1 then (if b=true then ackC { c with bak:=c.bak.eraseIdx i } x else rcvC { c with tos:=c.tos.eraseIdx i } x,0)
 else if k=2 then (if b=true then { c with bak:=c.bak.eraseIdx i } else { c with tos:=c.tos.eraseIdx i },0)
 else if k=3 then (if (flt c b).length=200 then (zeroC,5) else (if b=true then { c with bak:=c.bak++[x] } else { c with tos:=c.tos++[x] },0))
 else (if at_ < 0∨at_ ≥ (x.size:Int) then (zeroC,4) else (if b=true then { c with bak:=c.bak.set i (x.extract 0 at_.toNat) } else { c with tos:=c.tos.set i (x.extract 0 at_.toNat) },0))
def actS (c:Ch) (k:Int) (b:Bool) (ix at_:Int):Ch×Int:=
 if chkC c=true then (zeroC,331)
 else if k < 1∨5 < k then (zeroC,1)
 else if k=5 then (tickC c,0)
 else if ix < 0∨((flt c b).length:Int)≤ix then (zeroC,4)
 else actK c k b ix.toNat at_ ((flt c b).getD ix.toNat ByteArray.empty)
def ActP (c:Ch) (k:Int) (b:Bool) (ix at_:Int) (p:Ch×Int):Prop:=PL 21 [c.d,acD k b ix at_] (.tup [.d p.1.d,.d (.int .i64 p.2)])
theorem c21 (c:Ch) (k:Int) (b:Bool) (ix at_:Int) (hs:c.Sm):ActP c k b ix at_ (actS c k b ix at_):=by
 have hc:=hs.few
 unfold actS
 cases hk:chkC c with
 | true=>rw [if_pos rfl];exact Pf.L (c21e1 c k b ix at_ hc hk)
 | false=>
  rw [if_neg (by decide)]
  have hr:=rt_of hs hk
  by_cases h15:k < 1∨5 < k
  · rw [if_pos h15];exact Pf.L (c21e2 c k b ix at_ hc hk h15)
  rw [if_neg h15]
  by_cases h5:k=5
  · rw [if_pos h5]
    subst h5
    have hm:=(c49 c (acD 5 b ix at_) ⟨5,b,ix,at_,rfl⟩ hc.una)
    cases b with
    | true=>exact Pf.L (c21_5b c (tickC c) ix at_ 0 hc hk hm)
    | false=>exact Pf.L (c21_5t c (tickC c) ix at_ 0 hc hk hm)
  rw [if_neg h5]
  by_cases hix:ix < 0∨((flt c b).length:Int)≤ix
  · rw [if_pos hix]
    cases b with
    | true=>exact Pf.L (c21e3b c k ix at_ hc hk (by omega) (by omega) hix)
    | false=>exact Pf.L (c21e3t c k ix at_ hc hk (by omega) (by omega) hix)
  rw [if_neg hix]
  obtain ⟨i,rfl⟩:∃ i:Nat,ix=(i:Int):=⟨ix.toNat,by omega⟩
  rw [Int.toNat_natCast]
  have hif:i < (flt c b).length:=by omega
  obtain ⟨x,hx⟩:∃ x,(flt c b)[i]? = some x:=⟨_,gE hif⟩
  rw [List.getD_eq_getElem?_getD,hx,Option.getD_some]
  have hi0:(0:Int)≤(i:Int):=by omega
  have hi1:(i:Int) < ((flt c b).length:Int):=by omega
  have hk4:k=1∨k=2∨k=3∨k=4:=by omega
  have hrcv:=rcv_of hs hr
  have hw:c.win≤1000000:=hrcv.win1
  have hb0:=hr.base0
  have he1:c.exp≤c.base + (c.una.length:Int):=by have:=hr.exp1;have:=hr.una;omega
  unfold actK
  cases b with
  | true=>
   have hx':c.bak[i]? = some x:=hx
   have hi1':(i:Int) < (c.bak.length:Int):=hi1
   have hi':i < c.bak.length:=hif
   rcases hk4 with rfl | rfl | rfl | rfl
   · exact c21L_1b c _ i at_ 0 hc hk hi0 hi1' (c45b c 1 at_ i hx' hc hw hb0 he1)
   · exact c21L_2b c _ i at_ 0 hc hk hi0 hi1' (Mt.L (c46b c 2 at_ i hi' hc.bak))
   · have h:=c21L_3b c _ i at_ _ hc hk hi0 hi1' (Mt.L (c47b c 3 at_ i hx' hc.bak))
     rw [if_neg (by decide),if_neg (by decide),if_pos rfl]
     show ActP _ _ _ _ _ (if c.bak.length=200 then _ else _)
     by_cases h2:c.bak.length=200
     · rw [if_pos h2]
       rw [if_pos h2,if_pos h2] at h
       exact h
     · rw [if_neg h2]
       rw [if_neg h2,if_neg h2] at h
       exact h
   · have h:=c21L_4b c _ i at_ _ hc hk hi0 hi1' (Mt.L (c48b c 4 at_ i hx'))
     rw [if_neg (by decide),if_neg (by decide),if_neg (by decide)]
     by_cases h2:at_ < 0∨at_ ≥ (x.size:Int)
     · rw [if_pos h2]
       rw [if_pos h2,if_pos h2] at h
       exact h
     · rw [if_neg h2]
       rw [if_neg h2,if_neg h2] at h
       exact h
  | false=>
   have hx':c.tos[i]? = some x:=hx
   have hi1':(i:Int) < (c.tos.length:Int):=hi1
   have hi':i < c.tos.length:=hif
   rcases hk4 with rfl | rfl | rfl | rfl
   · exact c21L_1t c _ i at_ 0 hc hk hi0 hi1' (c45t c 1 at_ i hx' hc hrcv)
   · exact c21L_2t c _ i at_ 0 hc hk hi0 hi1' (Mt.L (c46t c 2 at_ i hi' hc.tos))
   · have h:=c21L_3t c _ i at_ _ hc hk hi0 hi1' (Mt.L (c47t c 3 at_ i hx' hc.tos))
     rw [if_neg (by decide),if_neg (by decide),if_pos rfl]
     show ActP _ _ _ _ _ (if c.tos.length=200 then _ else _)
     by_cases h2:c.tos.length=200
     · rw [if_pos h2]
       rw [if_pos h2,if_pos h2] at h
       exact h
     · rw [if_neg h2]
       rw [if_neg h2,if_neg h2] at h
       exact h
   · have h:=c21L_4t c _ i at_ _ hc hk hi0 hi1' (Mt.L (c48t c 4 at_ i hx'))
     rw [if_neg (by decide),if_neg (by decide),if_neg (by decide)]
     by_cases h2:at_ < 0∨at_ ≥ (x.size:Int)
     · rw [if_pos h2]
       rw [if_pos h2,if_pos h2] at h
       exact h
     · rw [if_neg h2]
       rw [if_neg h2,if_neg h2] at h
       exact h
end
section
theorem zo (kl:List (Nat×Nat)) (ws:List Nat) (ms:List (List (List PV))) {n:Nat} {S0:Reg} {O0:Owns} {w0:World} {m0 Bs:List Nat} {ds:List Deferred} {fr:List Fr} {Q:Exit→GS→Prop} {id:Nat} {ops:Array Oper} {sl base:List (Nat×PV)} {mem:List (List PV)} {tt:List Nat} (hb:baseK ops.toList sl=some (tt,base):=by exact rfl) (hm0:ms.head? = some mem:=by rfl) (hdep:((List.range ops.size).all fun i=>(depsOf ops i).all fun d=>Nat.blt d i)=true:=by kernel_rfl) (hc:COz kl ⟨Tryd.prog,n,S0,O0,w0,m0,Bs,ds⟩ fr ops base ws ms 0 [] Q):GF ⟨Tryd.prog,n,S0,O0,w0,m0,Bs,ds⟩ fr (.code (.region id ops true)) Q ⟨sl,mem⟩:=gOpenZ kl ws ms hb mixed hm0 hdep hc
variable {n i j t:Nat} {S0:Reg} {O0:Owns} {w0:World} {m0 Bs ws:List Nat} {ds:List Deferred} {fr:List Fr} {Q:Exit→GS→Prop} {kl:List (Nat×Nat)} {ops:Array Oper} {base pre:List (Nat×PV)} {ms:List (List (List PV))} {es es':List (Nat×Nat×PV)} {ob:List (Bool×Bool)} {p:PV}
theorem zv (hs:seeF kl ops.toList i es base=some pre:=by exact rfl) (hj:nth nums (i + 1)=some j:=by exact rfl) (h:∀ rest X,E.step tab ops.toList n i ⟨pre++rest,X⟩=some (ob,⟨(t,p) :: (pre++rest),X⟩):=by exact fun _ _=>rfl) (hes:snocK es (i,t,p) some=some es':=by exact rfl) (hc:COz kl ⟨Tryd.prog,n,S0,O0,w0,m0,Bs,ds⟩ fr ops base ws ms j es' Q) (hi:memN i ws=false:=by rfl) (ho:Obl ob:=by repeat first | exact Obl.nil | refine Obl.same ?_ | refine Obl.imp (fun h=>by simp_all) ?_):COz kl ⟨Tryd.prog,n,S0,O0,w0,m0,Bs,ds⟩ fr ops base ws ms i es Q:=zAny hs hj hes hi hc fun rest X _ hg=>toO (gv tabOk (h rest X) (ofO hg) ho)
theorem za (k:Nat) {n:Nat} {S0:Reg} {O0:Owns} {w0:World} {m0 Bs:List Nat} {ds:List Deferred} {fr:List Fr} {Q:Exit→GS→Prop} {kl:List (Nat×Nat)} {ops:Array Oper} {base pre:List (Nat×PV)} {ws:List Nat} {ms:List (List (List PV))} {i j t:Nat} {es es':List (Nat×Nat×PV)} {mem:List (List PV)} {ob:List (Bool×Bool)} {p:PV} (hmm:ms[k]? = some mem:=by rfl) (hs:seeF kl ops.toList i es base=some pre:=by exact rfl) (hj:nth nums (i + 1)=some j:=by exact rfl) (h:∀ rest,E.step tab ops.toList n i ⟨pre++rest,mem⟩=some (ob,⟨(t,p) :: (pre++rest),mem⟩):=by exact fun _=>rfl) (hes:snocK es (i,t,p) some=some es':=by exact rfl) (hc:COz kl ⟨Tryd.prog,n,S0,O0,w0,m0,Bs,ds⟩ fr ops base ws ms j es' Q) (hi:memN i ws=false:=by rfl) (hch:chained ops ws=true:=by rfl) (hk:k≤ws.length:=by decide) (hb:behindB ops ws k i=true:=by rfl) (ha:aheadB ops ws k i=true:=by rfl) (ho:Obl ob:=by repeat first | exact Obl.nil | refine Obl.same ?_ | refine Obl.imp (fun h=>by simp_all) ?_):COz kl ⟨Tryd.prog,n,S0,O0,w0,m0,Bs,ds⟩ fr ops base ws ms i es Q:=zAt k hs hj hes hi hch hk hmm hb ha hc fun rest _ hg=>toO (gv tabOk (h rest) (ofO hg) ho)
theorem zq {C:Prop} (hs:seeF kl ops.toList i es base=some pre:=by exact rfl) (hj:nth nums (i + 1)=some j:=by exact rfl) (h:∀ rest,qcs tab ops.toList n i (pre++rest)=some (t,none,ob,C,p):=by exact fun _=>rfl) (hcc:C) (hes:snocK es (i,t,p) some=some es':=by exact rfl) (hc:COz kl ⟨Tryd.prog,n,S0,O0,w0,m0,Bs,ds⟩ fr ops base ws ms j es' Q) (hi:memN i ws=false:=by rfl) (ho:Obl ob:=by repeat first | exact Obl.nil | refine Obl.same ?_ | refine Obl.imp (fun h=>by simp_all) ?_):COz kl ⟨Tryd.prog,n,S0,O0,w0,m0,Bs,ds⟩ fr ops base ws ms i es Q:=zAny hs hj hes hi hc fun rest X _ hg=>gQ tabOk (h rest) (fun _=>hcc) ho hg
theorem zk (k:Nat) {n:Nat} {S0:Reg} {O0:Owns} {w0:World} {m0 Bs:List Nat} {ds:List Deferred} {fr:List Fr} {Q:Exit→GS→Prop} {kl:List (Nat×Nat)} {ops:Array Oper} {base pre:List (Nat×PV)} {ws:List Nat} {ms:List (List (List PV))} {i j t:Nat} {es es':List (Nat×Nat×PV)} {mem:List (List PV)} {g:Option Bool} {ob:List (Bool×Bool)} {o:Oper} {p:PV} {slx:List (Nat×PV)→List (Nat×PV)} (hmm:ms[k]? = some mem:=by rfl) (hs:seeF kl ops.toList i es base=some pre:=by exact rfl) (hj:nth nums (i + 1)=some j:=by exact rfl) (h:∀ rest,gview ops.toList n i (pre++rest)=some (t,g,ob,o,slx rest):=by exact fun _=>rfl) (hq:∀ rest,isT g→t < n→Qy ⟨Tryd.prog,n,S0,O0,w0,m0,Bs,ds⟩ o ⟨slx rest,mem⟩ t p) (hes:snocK es (i,t,whn g p) some=some es':=by exact rfl) (hc:COz kl ⟨Tryd.prog,n,S0,O0,w0,m0,Bs,ds⟩ fr ops base ws ms j es' Q) (hi:memN i ws=false:=by rfl) (hch:chained ops ws=true:=by rfl) (hk:k≤ws.length:=by decide) (hb:behindB ops ws k i=true:=by rfl) (ha:aheadB ops ws k i=true:=by rfl) (ho:Obl ob:=by repeat first | exact Obl.nil | refine Obl.same ?_ | refine Obl.imp (fun h=>by simp_all) ?_):COz kl ⟨Tryd.prog,n,S0,O0,w0,m0,Bs,ds⟩ fr ops base ws ms i es Q:=zAt k hs hj hes hi hch hk hmm hb ha hc fun rest _ hg=>gqy (h rest) (hq rest) hg ho
theorem zi {m:Nat} {xs:List D} {ix:Int} {d:D} (hs:seeF kl ops.toList i es base=some pre:=by exact rfl) (hj:nth nums (i + 1)=some j:=by exact rfl) (h:∀ rest,ixs tab ops.toList n i (pre++rest)=some (t,none,ob,xs,ix,m):=by exact fun _=>rfl) (hd:xs[ix.toNat]? = some d) (hes:snocK es (i,t,.d (.ptr d)) some=some es':=by exact rfl) (hc:COz kl ⟨Tryd.prog,n,S0,O0,w0,m0,Bs,ds⟩ fr ops base ws ms j es' Q) (h0:0≤ix:=by omega) (hn:d.cells.length=m:=by first | rfl | simp [D.cells]) (hm:0 < m:=by decide) (hi:memN i ws=false:=by rfl) (ho:Obl ob:=by repeat first | exact Obl.nil | refine Obl.same ?_ | refine Obl.imp (fun h=>by simp_all) ?_):COz kl ⟨Tryd.prog,n,S0,O0,w0,m0,Bs,ds⟩ fr ops base ws ms i es Q:=zAny hs hj hes hi hc fun rest X _ hg=>gI d tabOk (h rest) (fun _=>⟨h0,hd,hn⟩) hm ho hg
variable {k:Nat}
theorem zb {xs:List D} (hs:seeF kl ops.toList i es base=some pre:=by exact rfl) (hj:nth nums (i + 1)=some j:=by exact rfl) (h:∀ rest,bss tab ops.toList n i (pre++rest)=some (t,k,xs):=by exact fun _=>rfl) (hes:snocK es (i,t,.osl k xs) some=some es':=by exact rfl) (hc:COz kl ⟨Tryd.prog,n,S0,O0,w0,m0,Bs,ds⟩ fr ops base ws ms j es' Q) (hk0:0 < k:=by decide) (hk:∀ d ∈ xs,d.cells.length=k:=by simp [D.cells]) (hi:memN i ws=false:=by rfl):COz kl ⟨Tryd.prog,n,S0,O0,w0,m0,Bs,ds⟩ fr ops base ws ms i es Q:=zAny hs hj hes hi hc fun rest X _ hg=>gB tabOk (h rest) hk0 hk hg
variable {u b:Nat}
theorem zp {xs ys:List D} (hs:seeF kl ops.toList i es base=some pre:=by exact rfl) (hj:nth nums (i + 1)=some j:=by exact rfl) (h:∀ rest,aps tab ops.toList n i (pre++rest)=some (t,u,k,b,xs,ys):=by exact fun _=>rfl) (hes:snocK es (i,t,.osl k (xs++ys)) some=some es':=by exact rfl) (hc:COz kl ⟨Tryd.prog,n,S0,O0,w0,m0,Bs,ds⟩ fr ops base ws ms j es' Q) (hx:tkB kl es u i=true:=by rfl) (hk0:0 < k:=by decide) (hne:ys ≠ []:=by simp) (hk:∀ y ∈ ys,y.cells.length=k:=by simp [D.cells]) (hl:xs.length + ys.length≤lim:=by simp only [lim,List.length_cons,List.length_nil,List.length_append,List.length_map];omega) (hB:(xs.length + ys.length) * b≤lim:=by simp only [lim,List.length_cons,List.length_nil,List.length_append,List.length_map];omega) (hi:memN i ws=false:=by rfl):COz kl ⟨Tryd.prog,n,S0,O0,w0,m0,Bs,ds⟩ fr ops base ws ms i es Q:=zTake hs hj hes hi hx hc fun rest X _ hg=>gA tabOk (h rest) hk0 hne hk hl hB hg
theorem zp0 {xs:List D} (hs:seeF kl ops.toList i es base=some pre:=by exact rfl) (hj:nth nums (i + 1)=some j:=by exact rfl) (h:∀ rest,aps tab ops.toList n i (pre++rest)=some (t,u,k,b,xs,[]):=by exact fun _=>rfl) (hes:snocK es (i,t,.osl k xs) some=some es':=by exact rfl) (hc:COz kl ⟨Tryd.prog,n,S0,O0,w0,m0,Bs,ds⟩ fr ops base ws ms j es' Q) (hx:tkB kl es u i=true:=by rfl) (hu0:∀ rest,lk (pre++rest) u=.osl k xs:=by exact fun _=>rfl) (htu:t ≠ u:=by decide) (hi:memN i ws=false:=by rfl):COz kl ⟨Tryd.prog,n,S0,O0,w0,m0,Bs,ds⟩ fr ops base ws ms i es Q:=zTake hs hj hes hi hx hc fun rest X _ hg=>gA0 tabOk (h rest) (hu0 rest) htu hg
theorem gAg {l:List Nat} {sl:List (Nat×PV)} {mem:List (List PV)} {xs ys:List D} (h:aps tab ops.toList n i sl=some (t,u,k,b,xs,ys)) (hu0:lk sl u=.osl k xs) (htu:t ≠ u) (hk0:0 < k) (hk:∀ y ∈ ys,y.cells.length=k) (hl:xs.length + ys.length≤lim) (hB:(xs.length + ys.length) * b≤lim) (hg:GF ⟨Tryd.prog,n,S0,O0,w0,m0,Bs,ds⟩ fr (.ops ops l) Q ⟨(t,.osl k (xs++ys)) :: (u,.d (.sl xs)) :: sl,mem⟩):GF ⟨Tryd.prog,n,S0,O0,w0,m0,Bs,ds⟩ fr (.ops ops (i :: l)) Q ⟨sl,mem⟩:=by
 by_cases hy:ys=[]
 · subst hy
   rw [List.append_nil] at hg
   exact gA0 tabOk h hu0 htu hg
 · exact gA tabOk h hk0 hy hk hl hB hg
theorem zpg {xs ys:List D} (hs:seeF kl ops.toList i es base=some pre:=by exact rfl) (hj:nth nums (i + 1)=some j:=by exact rfl) (h:∀ rest,aps tab ops.toList n i (pre++rest)=some (t,u,k,b,xs,ys):=by exact fun _=>rfl) (hes:snocK es (i,t,.osl k (xs++ys)) some=some es':=by exact rfl) (hc:COz kl ⟨Tryd.prog,n,S0,O0,w0,m0,Bs,ds⟩ fr ops base ws ms j es' Q) (hx:tkB kl es u i=true:=by rfl) (hk0:0 < k:=by decide) (hk:∀ y ∈ ys,y.cells.length=k:=by simp [D.cells]) (hu0:∀ rest,lk (pre++rest) u=.osl k xs:=by exact fun _=>rfl) (htu:t ≠ u:=by decide) (hl:xs.length + ys.length≤lim:=by simp only [lim,List.length_cons,List.length_nil,List.length_append,List.length_map];omega) (hB:(xs.length + ys.length) * b≤lim:=by simp only [lim,List.length_cons,List.length_nil,List.length_append,List.length_map];omega) (hi:memN i ws=false:=by rfl):COz kl ⟨Tryd.prog,n,S0,O0,w0,m0,Bs,ds⟩ fr ops base ws ms i es Q:=zTake hs hj hes hi hx hc fun rest X _ hg=>gAg (h rest) (hu0 rest) htu hk0 hk hl hB hg
theorem zc {f:FuncId} {ds':List D} (hs:seeF kl ops.toList i es base=some pre:=by exact rfl) (hj:nth nums (i + 1)=some j:=by exact rfl) (h:∀ rest,cls ops.toList n i (pre++rest)=some (t,none,ob,f,ds'):=by exact fun _=>rfl) (hcl:Pf Tryd.prog f ds' p) (hes:snocK es (i,t,p) some=some es':=by exact rfl) (hc:COz kl ⟨Tryd.prog,n,S0,O0,w0,m0,Bs,ds⟩ fr ops base ws ms j es' Q) (hi:memN i ws=false:=by rfl) (ho:Obl ob:=by repeat first | exact Obl.nil | refine Obl.same ?_ | refine Obl.imp (fun h=>by simp_all) ?_):COz kl ⟨Tryd.prog,n,S0,O0,w0,m0,Bs,ds⟩ fr ops base ws ms i es Q:=zAny hs hj hes hi hc fun rest X _ hg=>gC (h rest) (fun _=>hcl) ho hg
theorem zs (k:Nat) {n:Nat} {S0:Reg} {O0:Owns} {w0:World} {m0 Bs:List Nat} {ds:List Deferred} {fr:List Fr} {Q:Exit→GS→Prop} {kl:List (Nat×Nat)} {ops:Array Oper} {base pre:List (Nat×PV)} {ws:List Nat} {ms:List (List (List PV))} {i j:Nat} {es:List (Nat×Nat×PV)} {mem mem':List (List PV)} {ob:List (Bool×Bool)} (hm1:ms[k]? = some mem:=by rfl) (hm2:ms[k + 1]? = some mem':=by rfl) (hs:seeF kl ops.toList i es base=some pre:=by exact rfl) (hj:nth nums (i + 1)=some j:=by exact rfl) (h:∀ rest,E.step tab ops.toList n i ⟨pre++rest,mem⟩=some (ob,⟨pre++rest,mem'⟩):=by exact fun _=>rfl) (hc:COz kl ⟨Tryd.prog,n,S0,O0,w0,m0,Bs,ds⟩ fr ops base ws ms j es Q) (hw:ws[k]? = some i:=by rfl) (hch:chained ops ws=true:=by rfl) (hnd:nodupB ws=true:=by rfl) (ho:Obl ob:=by repeat first | exact Obl.nil | refine Obl.same ?_ | refine Obl.imp (fun h=>by simp_all) ?_):COz kl ⟨Tryd.prog,n,S0,O0,w0,m0,Bs,ds⟩ fr ops base ws ms i es Q:=zAct k hs hj hw hch hnd hm1 hm2 hc fun rest _ hg=>toO (gv tabOk (h rest) (ofO hg) ho)
theorem zst (k:Nat) {n:Nat} {S0:Reg} {O0:Owns} {w0:World} {m0 Bs:List Nat} {ds:List Deferred} {fr:List Fr} {Q:Exit→GS→Prop} {kl:List (Nat×Nat)} {ops:Array Oper} {base pre:List (Nat×PV)} {ws:List Nat} {ms:List (List (List PV))} {i j u:Nat} {es:List (Nat×Nat×PV)} {q:PV} {mem mem':List (List PV)} {ob:List (Bool×Bool)} (hm1:ms[k]? = some mem:=by rfl) (hm2:ms[k + 1]? = some mem':=by rfl) (hs:seeF kl ops.toList i es base=some pre:=by exact rfl) (hj:nth nums (i + 1)=some j:=by exact rfl) (h:∀ rest,E.step tab ops.toList n i ⟨pre++rest,mem⟩=some (ob,⟨(u,q) :: (pre++rest),mem'⟩):=by exact fun _=>rfl) (hc:COz kl ⟨Tryd.prog,n,S0,O0,w0,m0,Bs,ds⟩ fr ops base ws ms j es Q) (hx:tkB kl es u i=true:=by rfl) (hw:ws[k]? = some i:=by rfl) (hch:chained ops ws=true:=by rfl) (hnd:nodupB ws=true:=by rfl) (ho:Obl ob:=by repeat first | exact Obl.nil | refine Obl.same ?_ | refine Obl.imp (fun h=>by simp_all) ?_):COz kl ⟨Tryd.prog,n,S0,O0,w0,m0,Bs,ds⟩ fr ops base ws ms i es Q:=zActTake k hs hj hw hch hnd hm1 hm2 hx hc fun rest _ hg=>toO (gv tabOk (h rest) (ofO hg) ho)
theorem zvt {q:PV} (hs:seeF kl ops.toList i es base=some pre:=by exact rfl) (hj:nth nums (i + 1)=some j:=by exact rfl) (h:∀ rest X,E.step tab ops.toList n i ⟨pre++rest,X⟩=some (ob,⟨(t,p) :: (u,q) :: (pre++rest),X⟩):=by exact fun _ _=>rfl) (hes:snocK es (i,t,p) some=some es':=by exact rfl) (hc:COz kl ⟨Tryd.prog,n,S0,O0,w0,m0,Bs,ds⟩ fr ops base ws ms j es' Q) (hx:tkB kl es u i=true:=by rfl) (hi:memN i ws=false:=by rfl) (ho:Obl ob:=by repeat first | exact Obl.nil | refine Obl.same ?_ | refine Obl.imp (fun h=>by simp_all) ?_):COz kl ⟨Tryd.prog,n,S0,O0,w0,m0,Bs,ds⟩ fr ops base ws ms i es Q:=zTake hs hj hes hi hx hc fun rest X _ hg=>toO (gv tabOk (h rest X) (ofO hg) ho)
theorem ze {sl:List (Nat×PV)} {mem:List (List PV)} (hi:sizeIs ops.toList i=true:=by exact rfl) (hp:(es.filter fun x=>(kl.lookup x.1).isNone).map (·.2)++base=sl:=by exact rfl) (hm:ms[ws.length]? = some mem:=by rfl) (hc:GF ⟨Tryd.prog,n,S0,O0,w0,m0,Bs,ds⟩ fr (.leave .normal) Q ⟨sl,mem⟩) (hS:ws.all (fun w=>Nat.blt w ops.size)=true:=by rfl) (hn:nodupB (es.map (·.2.1))=true:=by rfl) (hb:base.all (fun x=>!(es.map (·.2.1)).contains x.1)=true:=by rfl) (hf:es.all (fun x=>Nat.blt x.1 ops.size)=true:=by rfl):COz kl ⟨Tryd.prog,n,S0,O0,w0,m0,Bs,ds⟩ fr ops base ws ms i es Q:=zEnd hi hp hS hm hc hn hb hf
theorem ti {K:Ctx} {fs:List (Nat×Nat×PV)} {X S m':Nat} {m0 m1 m2:List (List PV)} {xs:List D} {jx:Int} {d:D} (hs:pick fs (dsK kl ops i)++base=pre) (he:entsOf i fs=[(t,.d (.ptr d))]) (hX:Nat.beq i X=false) (hS:Nat.beq i S=false)
 (ha:memN i (ancs ops 7 [X])=true) (h0:∀ rest,ixs tab ops.toList K.n i (pre++rest)=some (t,none,ob,xs,jx,m')) (hd:0≤jx∧xs[jx.toNat]? = some d∧d.cells.length=m') (hm:0 < m') (hT:tabB K.P tab=true:=by exact tabOk) (ho0:Obl ob:=by exact Obl.nil):TabOp K ops kl base fs X S m0 m1 m2 i:=
 tA hs he hX hS ha (fun rest _ hg=>gI d hT (h0 rest) (fun _=>hd) hm ho0 hg)
theorem nextC_eq (c:Ch) (m:ByteArray):nextC c m={ ({ c with una:=c.una++[m] }:Ch) with tos:=sentL c.tos ⟨1,c.nxt,m⟩,nxt:=IntKind.i64.wrap (c.nxt + 1) }:=by
 unfold nextC sendT sentL
 by_cases h2:c.tos.length < 200
 · rw [if_pos h2,if_neg (by omega)]
 · rw [if_neg h2,if_pos (by omega)]
theorem Le_0 {K:Ctx} {s s':GS} (hk:K.m0.length=0) (hm:MSub s'.mem.length s.mem s'.mem) (hs:Sub s s'.mem.length s'.slots):Le K s s':=Le_of (by rw [hk];exact Nat.zero_le _) hm hs
theorem CSa {a b:List PV} (h:CSub n a b:=by repeat' first | exact CSub_flat _ _ | exact CSub_unk _ _ | exact .nil | refine .cons (.inl rfl) rfl ?_ | refine .cons (.inr (.inl rfl)) rfl ?_ | refine .cons (.inr (.inr (.inr (.inr ⟨_,_,rfl,rfl⟩)))) rfl ?_ | refine .cons (.inr (.inr (.inl ⟨rfl,_,rfl⟩))) rfl ?_ | fail):CSub n a b:=h
theorem SSa {s:GS} {l:List (Nat×PV)} (h:Sub s n l:=by repeat' first | exact .nil | refine .cons rfl (.inl rfl) rfl ?_ | refine .cons rfl (.inr (.inr (.inl ⟨rfl,_,rfl⟩))) rfl ?_ | fail):Sub s n l:=h
set_option maxRecDepth 100000 in
theorem c50 (l:List ByteArray) (i:Nat) (h1:i < l.length) (hl:l.length≤1000000):Pf Tryd.prog 50 [.sl (sD l),.int .i64 (i:Int)] (.d (.sl (sD (l.eraseIdx i)))):=by
 have hlen:(sD l).length=l.length:=sD_len l
 have hw:IntKind.i64.wrap ((i:Int) + 1)=((i + 1:Nat):Int):=by
  simp [IntKind.wrap,IntKind.signed,IntKind.bits];omega
 refine pfb Tryd.func50 Tryd.ntmps50 Tryd.results50 (fun S0 O0 w0 m0 hm0=>?_)
 repeat' first | refine s_ ?_ | fail
 refine zo [(0,4),(4,9),(9,10)] [] [[]] (hc:=?_)
 refine zb (hc:=?_)
 iterate 2 refine zv (hc:=?_)
 refine zq (hcc:=?_) (hc:=?_)
 · exact ⟨⟨by omega,by omega⟩,sD_k l⟩
 rw [show List.take (Int.toNat (i:Int)) (sD l)=sD (l.take i) by unfold sD;rw [Int.toNat_natCast,List.map_take]]
 have hne:∀ m:List ByteArray,m ≠ []→sD m ≠ []:=fun m hm h=>hm (List.map_eq_nil_iff.1 h)
 have hta:(sD (l.take i)).length≤1000000:=by rw [sD_len,List.length_take];omega
 have htb:(sD (l.drop (i + 1))).length≤1000000:=by rw [sD_len,List.length_drop];omega
 have hap:sD (l.take i)++sD (l.drop (i + 1))=sD (l.eraseIdx i):=by
  rw [List.eraseIdx_eq_take_drop_succ]
  unfold sD;rw [List.map_append]
 by_cases hA:l.take i=[]
 · rw [hA]
   refine zp0 (hc:=?_)
   iterate 2 refine zv (hc:=?_)
   refine Z29 ?_
   rw [hw]
   refine zq (hcc:=?_) (hc:=?_)
   · exact ⟨⟨by omega,by omega⟩,sD_k l⟩
   rw [show List.drop (Int.toNat ((i + 1:Nat):Int)) (sD l)=sD (l.drop (i + 1)) by unfold sD;rw [Int.toNat_natCast,List.map_drop]]
   by_cases hB:l.drop (i + 1)=[]
   · rw [hB]
     refine zp0 (hc:=?_)
     rw [hA,hB] at hap
     rw [← hap]
     refine zvt (hc:=?_)
     refine Z34 ?_
     repeat' first | refine s_ ?_ | fail
     exact e_
   · refine zp (hc:=?_) (hne:=hne _ hB) (hk:=sD_k _) (hl:=by unfold lim;simp only [List.length_nil];omega) (hB:=by unfold lim;simp only [List.length_nil];omega)
     rw [hA] at hap
     rw [← hap]
     refine zvt (hc:=?_)
     refine Z34 ?_
     repeat' first | refine s_ ?_ | fail
     exact e_
 · refine zp (hc:=?_) (hne:=hne _ hA) (hk:=sD_k _) (hl:=by unfold lim;simp only [List.length_nil];omega) (hB:=by unfold lim;simp only [List.length_nil];omega)
   iterate 2 refine zv (hc:=?_)
   refine Z29 ?_
   rw [hw]
   refine zq (hcc:=?_) (hc:=?_)
   · exact ⟨⟨by omega,by omega⟩,sD_k l⟩
   rw [show List.drop (Int.toNat ((i + 1:Nat):Int)) (sD l)=sD (l.drop (i + 1)) by unfold sD;rw [Int.toNat_natCast,List.map_drop]]
   by_cases hB:l.drop (i + 1)=[]
   · rw [hB]
     refine zp0 (hc:=?_)
     rw [hB,show sD ([]:List ByteArray)=[] from rfl,List.append_nil] at hap
     rw [← hap]
     refine zvt (hc:=?_)
     refine Z34 ?_
     repeat' first | refine s_ ?_ | fail
     exact e_
   · refine zp (hc:=?_) (hne:=hne _ hB) (hk:=sD_k _) (hl:=by unfold lim;simp only [List.length_append,List.length_nil];omega) (hB:=by unfold lim;simp only [List.length_append,List.length_nil];omega)
     skip
     rw [← hap]
     refine zvt (hc:=?_)
     refine Z34 ?_
     repeat' first | refine s_ ?_ | fail
     exact e_
end
section
def ChT (c:Ch) (a b:List D) (n:Nat):List PV:=[.d (.int .i64 c.win),.d (.int .i64 c.base),.d (.int .i64 c.nxt),.d (.sl (sD c.una)),.d (.sl (sD c.wai)),.d (.int .i64 c.exp),.d (.sl (pD c.ear)),.d (.sl (sD c.del)),rowV n 1 a (sD c.tos) b,.d (.sl (sD c.bak))]
def RowT (c:Ch) (r:PV) (m:List (List PV)):Prop:=∃ a b:List D,(∀ x ∈ a,x.cells.length=1)∧(∀ x ∈ b,x.cells.length=1)∧r=.agg (ChT c a b 0)∧m=[flat (a++sD c.tos++b)]
set_option maxRecDepth 100000 in
theorem c51 (c:Ch) (s:ByteArray) (a b:List D) (ha:∀ x ∈ a,x.cells.length=1) (hb0:∀ x ∈ b,x.cells.length=1) (hc:c.Few) (hw:c.win≤1000000) (hb:0≤c.base) (he:c.exp≤c.base + (c.una.length:Int)):Gj 0 Tryd.prog 51 [.agg (ChT c a b 0),.d (.str s)] [flat (a++sD c.tos++b)] (RowT (ackC c s)):=by
 have q13:=c13 s
 rw [deRP_eq,deRE_eq] at q13
 unfold ackC
 unfold Pk.d at q13
 refine gjB 0 1 Tryd.func51 Tryd.ntmps51 Tryd.results51 (fun S0 O0 w0 m0 hm0=>?_)
 repeat' first | refine s_ ?_ | refine c_ q13 ?_ | fail
 have hq:(!(deE s == 0 && (deP s).kd == 2) || decide ((deP s).nu≤c.base) || decide ((deP s).nu > c.exp))=(deE s != 0 || (deP s).kd != 2 || decide ((deP s).nu≤c.base) || decide ((deP s).nu > c.exp)):=by simp only [Bool.not_and];rfl
 rw [hq]
 refine d_ (fun hb=>?_) (fun hb=>?_)
 · rw [if_pos hb]
   repeat' first | refine s_ ?_ | fail
   exact enj (mem':=[flat (a++sD c.tos++b)]) (by exact rfl) ⟨a,b,ha,hb0,rfl,rfl⟩ (.cons (CSub_flat _ _) .nil)
 have hne:¬ (deE s != 0 || (deP s).kd != 2 || decide ((deP s).nu≤c.base) || decide ((deP s).nu > c.exp))=true:=by rw [hb];decide
 rw [if_neg hne]
 rw [Bool.or_eq_false_iff,Bool.or_eq_false_iff] at hb
 have hn1:=of_decide_eq_false hb.1.2
 have hn2:=of_decide_eq_false hb.2
 clear hne hb hq
 have hfu:=hc.una
 obtain ⟨n,hn⟩:∃ n:Nat,(deP s).nu=c.base + (n:Int):=⟨((deP s).nu - c.base).toNat,by omega⟩
 refine (show GF _ _ _ _ ⟨_,[flat (a++sD c.tos++b),ChT c a b 0,zcel,[.d (.int .i64 (deP s).kd),.d (.int .i64 (deP s).nu),.d (.str (deP s).bo)]]⟩ from ?_)
 refine kp [(2,.ref 1 0),(4,.ref 2 0),(5,.ref 3 0)] ⟨rfl,rfl,rfl,trivial⟩ ?_
 generalize (deP s).nu=nu at hn hn1 hn2 ⊢
 subst hn
 have hnl:n≤c.una.length:=by omega
 have hwr:IntKind.i64.wrap (c.base + (n:Int) - c.base)=(n:Int):=by
  rw [show c.base + (n:Int) - c.base=(n:Int) by omega]
  exact Y1
 rw [show (c.base + (n:Int) - c.base).toNat=n by omega]
 repeat' first | refine s_ ?_ | fail
 rw [hwr]
 refine qu (by exact rfl) ?_ ?_
 · exact ⟨⟨by omega,by rw [sD_len];omega⟩,sD_k _⟩
 rw [show List.drop (Int.toNat (n:Int)) (sD c.una)=sD (c.una.drop n) by unfold sD;rw [Int.toNat_natCast,List.map_drop]]
 repeat' first | refine s_ ?_ | fail
 have hf2:Ch.Few { c with una:=c.una.drop n,base:=c.base + (n:Int) }:={ hc with una:=by show (c.una.drop n).length≤_;rw [List.length_drop];omega }
 have hw2:Ch.win { c with una:=c.una.drop n,base:=c.base + (n:Int) }≤1000000:=hw
 have hF:fillN c.wai.length { c with una:=c.una.drop n,base:=c.base + (n:Int) }=fillN (Ch.wai { c with una:=c.una.drop n,base:=c.base + (n:Int) }).length { c with una:=c.una.drop n,base:=c.base + (n:Int) }:=rfl
 rw [hF]
 refine (show GF _ _ _ _ ⟨_,[flat (a++sD (Ch.tos { c with una:=c.una.drop n,base:=c.base + (n:Int) })++b),ChT { c with una:=c.una.drop n,base:=c.base + (n:Int) } a b 0,zcel,[.d (.int .i64 (deP s).kd),.d (.int .i64 (c.base + (n:Int))),.d (.str (deP s).bo)]]⟩ from ?_)
 generalize ({ c with una:=c.una.drop n,base:=c.base + (n:Int) }:Ch)=c2 at hf2 hw2 ⊢
 generalize hFe:fillN c2.wai.length c2=F
 refine gLo (fun x:Ch×List D×List D=>⟨[(2,.ref 1 0),(4,.ref 2 0)],[flat (x.2.1++sD x.1.tos++x.2.2),ChT x.1 x.2.1 x.2.2 0,zcel]⟩) (fun x=>x.1.wai.length) (fun x=>(∀ y ∈ x.2.1,y.cells.length=1)∧(∀ y ∈ x.2.2,y.cells.length=1)∧x.1.Few∧x.1.win≤1000000∧fillN x.1.wai.length x.1=F) (c2,a,b) ⟨ha,hb0,hf2,hw2,hFe⟩ ?_ (fun x hx Q' hn he hr hp=>?_)
 · exact Le_of (by rw [hm0];exact Nat.zero_le _) (.cons (CSub_flat _ _) (.cons CSa (.cons CSa .nil))) SSa
 obtain ⟨c3,a3,b3⟩:=x
 obtain ⟨ha3,hb3,hf3,hw3,hF3⟩:(∀ y ∈ a3,y.cells.length=1)∧(∀ y ∈ b3,y.cells.length=1)∧c3.Few∧c3.win≤1000000∧fillN c3.wai.length c3=F:=hx
 refine (show GF _ _ _ _ ⟨[(2,.ref 1 0),(4,.ref 2 0)],[flat (a3++sD c3.tos++b3),ChT c3 a3 b3 0,zcel]⟩ from ?_)
 repeat' first | refine s_ ?_ | fail
 refine d_ (fun hb=>?_) (fun hb=>?_)
 · rw [Bool.and_eq_true] at hb
   have hb1:=oR hb.1
   have hb2:=oR hb.2
   rw [sD_len] at hb1 hb2
   obtain ⟨m,r,hwr2⟩:∃ m r,c3.wai=m :: r:=by
    cases hq:c3.wai with
    | nil=>rw [hq] at hb1;simp at hb1
    | cons m r=>exact ⟨m,r,rfl⟩
   have hwl:0 < c3.wai.length:=by omega
   have hsd:(sD c3.wai)[0]? = some (.str m):=by rw [hwr2];rfl
   have hfu3:=hf3.una
   have hfw3:=hf3.wai
   have hul:(sD c3.una).length≤1000000:=by rw [sD_len];omega
   repeat' first | refine s_ ?_ | fail
   refine kp [(2,.ref 1 0),(4,.ref 2 0)] ⟨rfl,rfl,trivial⟩ ?_
   refine zo [(0,3),(3,9),(9,11)] [11] [[flat (a3++sD c3.tos++b3),ChT c3 a3 b3 0,zcel],[flat (a3++sD c3.tos++b3),(ChT c3 a3 b3 0).set 3 (.osl 1 (sD c3.una++[.str m])),zcel]] (hc:=?_)
   refine zb (hc:=?_)
   refine Z29 ?_
   refine za 0 (hc:=?_)
   refine zpg (hk:=sD_k _) (hl:=by unfold lim;simp only [List.length_nil];omega) (hB:=by unfold lim;simp only [List.length_nil];omega) (hc:=?_)
   refine Z29 ?_
   refine za 0 (hc:=?_)
   refine zi (hd:=hsd) (hc:=?_)
   refine Z29 ?_
   refine zb (hc:=?_)
   refine zp (hl:=by unfold lim;simp only [List.length_append,List.length_cons,List.length_nil];omega) (hB:=by unfold lim;simp only [List.length_append,List.length_cons,List.length_nil];omega) (hc:=?_)
   refine Z29 ?_
   refine zst 0 (hc:=?_)
   refine Z34 ?_
   rw [sD_snoc]
   repeat' first | refine s_ ?_ | fail
   refine kp [(2,.ref 1 0),(4,.ref 2 0)] ⟨rfl,rfl,trivial⟩ ?_
   refine gLe (s':=⟨[(2,.ref 1 0),(4,.ref 2 0)],[flat (a3++sD c3.tos++b3),ChT { c3 with una:=c3.una++[m] } a3 b3 0,zcel]⟩) (Le_0 hm0 (.cons (CSub_flat _ _) (.cons CSa (.cons CSa .nil))) SSa) ?_ rfl
   have hw4:Ch.wai { c3 with una:=c3.una++[m] }=m :: r:=hwr2
   have hx4:nextC c3 m={ ({ c3 with una:=c3.una++[m] }:Ch) with tos:=sentL c3.tos ⟨1,c3.nxt,m⟩,nxt:=IntKind.i64.wrap (c3.nxt + 1) }:=nextC_eq c3 m
   have ht4:Ch.tos { c3 with una:=c3.una++[m] }=c3.tos:=rfl
   have hn4:Ch.nxt { c3 with una:=c3.una++[m] }=c3.nxt:=rfl
   rw [← ht4,← hn4] at hx4
   have hxf:=nextC_few hf3 m (by omega)
   have hxw:=(nextC_wai c3 m).2
   refine (show GF _ _ _ _ ⟨[(2,.ref 1 0),(4,.ref 2 0)],[flat (a3++sD (Ch.tos { c3 with una:=c3.una++[m] })++b3),ChT { c3 with una:=c3.una++[m] } a3 b3 0,zcel]⟩ from ?_)
   generalize ({ c3 with una:=c3.una++[m] }:Ch)=c4 at hw4 hx4 ⊢
   have hsd4:(sD c4.wai)[0]? = some (.str m):=by rw [hw4];rfl
   have q43:=c43 c4.tos ⟨1,c4.nxt,m⟩ a3 b3 ha3 hb3
   unfold Pk.d at q43
   refine gTab (A:={ q:List D×List D // (∀ y ∈ q.1,y.cells.length=1)∧(∀ y ∈ q.2,y.cells.length=1) }) (m1:=fun a=>[flat (a.1.1++sD (sentL c4.tos ⟨1,c4.nxt,m⟩)++a.1.2),(ChT c4 a3 b3 0).set 8 .undef,zcel]) (m2:=fun a=>[flat (a.1.1++sD (sentL c4.tos ⟨1,c4.nxt,m⟩)++a.1.2),ChT { c4 with tos:=sentL c4.tos ⟨1,c4.nxt,m⟩ } a.1.1 a.1.2 0,zcel])
    9 11 [(1,9)] (nrefL [0]) [(0,69,.ref 1 8),(1,70,rowV 0 1 a3 (sD c4.tos) b3),(2,71,.ref 1 2),(3,72,.d (.int .i64 c4.nxt)),(4,73,.ref 1 4),(5,74,.d (.sl (sD c4.wai))),(6,75,.d (.ptr (.str m))),(7,76,.d (.str m)),(8,77,.d (.agg [.int .i64 1,.int .i64 c4.nxt,.str m]))]
    [(10,79,.ref 1 8)] 78 (fun a=>rowV 0 1 a.1.1 (sD (sentL c4.tos ⟨1,c4.nxt,m⟩)) a.1.2) ⟨(a3,b3),ha3,hb3⟩ [0,1,2,3,4,5,6,7,8,10,11]
    (by exact rfl) mixed (by kernel_rfl) rfl (by kernel_rfl) rfl rfl rfl rfl rfl rfl rfl (by exact rfl) (fun rest Q' hQ=>?_) (fun a=>?_) rfl (by kernel_rfl) (fun a h=>absurd h (by decide)) (fun a=>?_)
   · refine gCell 1 8 rfl rfl ?_ rfl rfl
     refine gJ (jn:=0) [0] (by exact rfl) q43 rfl (by decide) (fun b hb=>?_) ?_ rfl ?_ (fun b hb=>?_) ?_ ?_
     · rw [List.mem_singleton] at hb;subst hb
       exact Y11
     · show [_]=_
       exact Y3
     · show (_ && _)=true
       rw [refs_flat];rfl
     · rw [hm0];exact Nat.zero_le _
     · simp only [List.set_cons_zero,List.set_cons_succ,nrefLM,PV.nrefs,PV.nref,nrefs_flat,List.drop_zero,List.all_cons,List.all_nil,Bool.or_true,Bool.true_and,Bool.and_true]<;>rfl
     · rintro q mm ⟨pre',post',g1,g2,rfl,rfl⟩ _
       have e1:∀ f:Nat→Nat,(List.take [0].length [flat (pre'++sD (sentL c4.tos ⟨1,c4.nxt,m⟩)++post')]).map (PV.rens f)=[flat (pre'++sD (sentL c4.tos ⟨1,c4.nxt,m⟩)++post')]:=fun f=>by
        show [PV.rens f (flat _)]=_
        rw [rens_flat]
       unfold stJ
       rw [e1]
       exact hQ ⟨(pre',post'),g1,g2⟩
   · refine ⟨?_,?_,?_,?_,?_,?_,?_,?_,?_,?_,?_,trivial⟩
     iterate 6 exact ta_
     · exact ti (by exact rfl) (by exact rfl) rfl rfl (by kernel_rfl) (by exact fun _=>rfl) ⟨Int.le_refl 0,hsd4,rfl⟩ (by exact Nat.le_refl 1)
     iterate 2 exact ta_
     · exact tb (by exact rfl) (by exact rfl) rfl rfl (by kernel_rfl) (by kernel_rfl) (by exact fun _=>rfl)
     · exact ts (by exact rfl) (by exact rfl) rfl (by kernel_rfl) (by exact fun _=>rfl)
   · repeat' first | refine s_ ?_ | fail
     refine kp [(81,.d (.sl (sD c4.wai))),(2,.ref 1 0),(4,.ref 2 0)] ⟨rfl,rfl,rfl,trivial⟩ ?_
     have hl4:(sD c4.wai).length=r.length + 1:=by rw [hw4,sD_len];rfl
     refine qu (by exact rfl) ?_ ?_
     · exact ⟨⟨by omega,by omega⟩,sD_k _⟩
     rw [show List.drop (Int.toNat 1) (sD c4.wai)=sD r by rw [hw4];rfl]
     repeat' first | refine s_ ?_ | fail
     have hF4:fillN r.length { nextC c3 m with wai:=r }=F:=by
      rw [← hF3,hwr2]
      show _=fillN (r.length + 1) c3
      conv=>rhs;unfold fillN
      rw [hwr2]
      show _=(if _ then _ else _)
      rw [if_pos hb2]
     refine toL (hn _ ({ nextC c3 m with wai:=r },a.1.1,a.1.2) ⟨a.2.1,a.2.2,{ hxf with wai:=?_ },by show (nextC c3 m).win≤_;rw [hxw];exact hw3,hF4⟩ ?_ ?_)
     · show r.length≤1000000
       have:c3.wai.length=r.length + 1:=by rw [hwr2];rfl
       omega
     · show r.length < c3.wai.length
       rw [hwr2];exact Nat.lt_succ_self _
     · rw [hx4]
       exact Le_of (by rw [hm0];exact Nat.zero_le _) (.cons (CSub_flat _ _) (.cons CSa (.cons CSa .nil))) SSa
 · have hF5:fillN c3.wai.length c3=c3:=by
    have hcl:¬ ((c3.wai.length:Int) > 0∧(c3.una.length:Int) < c3.win):=by
     rintro ⟨h1,h2⟩
     rw [Bool.and_eq_false_iff] at hb
     rcases hb with hb | hb
     · have:=of_decide_eq_false hb;rw [sD_len] at this;omega
     · have:=of_decide_eq_false hb;rw [sD_len] at this;omega
    cases hq:c3.wai with
    | nil=>rfl
    | cons m r=>
     show fillN (r.length + 1) c3=c3
     unfold fillN
     rw [hq]
     show (if _ then _ else _)=_
     rw [if_neg]
     intro h
     exact hcl ⟨by rw [hq];simp,h⟩
   rw [hF5] at hF3
   subst hF3
   repeat' first | refine s_ ?_ | fail
   refine Z15 ?_
   repeat' first | refine s_ ?_ | fail
   exact enj (mem':=[flat (a3++sD c3.tos++b3)]) (by exact rfl) ⟨a3,b3,ha3,hb3,rfl,rfl⟩ (.cons (CSub_flat _ _) .nil)
end
end Go.Proofs.YtoonleefemkalaaDoor
