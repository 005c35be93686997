import Derived.Test.YtoonleefemkalaaDoorM26
import Derived.Test.YtoonleefemkalaaDoorM17
/- Contracts of functions. Conditions: none. -/
set_option linter.unusedSimpArgs false
set_option linter.unusedVariables false
set_option maxRecDepth 20000
namespace Go.Proofs.YtoonleefemkalaaDoor
open Go Go.Proofs.YtoonleefemkalaaDoor.E
section
def smaL (c:Ch):Bool:=decide ((c.ear.length:Int) > 20) || !(fewB c.una 20) || !(fewB c.wai 20) || !(fewB c.del 40) || !(fewB c.tos 30) || !(fewB c.bak 30)
def smaB (c:Ch):Bool:=!smaL c && !c.ear.any (fun p=>lngP 250 p.bo)
theorem c14 (c:Ch) (h0:c.una.length≤140737488355328) (h1:c.wai.length≤140737488355328) (h2:c.ear.length≤140737488355328) (h3:c.del.length≤140737488355328) (h4:c.tos.length≤140737488355328) (h5:c.bak.length≤140737488355328):Pf Tryd.prog 14 [c.d] (.d (.bool (smaB c))):=by
 have qa:=c26 c.una 20 h0
 have qb:=c26 c.wai 20 h1
 have qc:=c26 c.del 40 h3
 have qd:=c26 c.tos 30 h4
 have qe:=c26 c.bak 30 h5
 have le:(c.ear.map Pk.d).length=c.ear.length:=List.length_map ..
 unfold Ch.d strs
 refine pfb Tryd.func14 Tryd.ntmps14 Tryd.results14 (fun S0 O0 w0 m0 hm0=>?_)
 repeat' (fail_if_success refine fz true (s:=⟨_,[_]⟩) (by exact rfl) ?_);first | refine s_ ?_ | fail
 refine Z8 ?_
 repeat' first | refine s_ ?_ | refine clg (by exact rfl) (fun _=>qa) ?_ | refine clg (by exact rfl) (fun _=>qb) ?_ | refine clg (by exact rfl) (fun _=>qc) ?_ | refine clg (by exact rfl) (fun _=>qd) ?_ | refine clg (by exact rfl) (fun _=>qe) ?_ | fail
 refine d_ (fun hb=>?_) (fun hb=>?_)
 · have hs:smaL c=true:=by rw [le] at hb;exact hb
   repeat' first | refine s_ ?_ | fail
   exact en (by exact rfl) (by unfold smaB;rw [hs];rfl)
 have hs:smaL c=false:=by rw [le] at hb;exact hb
 unfold smaB
 rw [hs]
 repeat' first | refine s_ ?_ | fail
 refine gLo (fun z:Nat=>⟨[(1,.d (.ptr (.agg [.int .i64 c.win,.int .i64 c.base,.int .i64 c.nxt,.sl (c.una.map D.str),.sl (c.wai.map D.str),.int .i64 c.exp,.sl (c.ear.map Pk.d),.sl (c.del.map D.str),.sl (c.tos.map D.str),.sl (c.bak.map D.str)]))),(3,.d (.int .i64 (z:Int)))],[]⟩) (fun z=>c.ear.length - z) (fun z=>∀ i,i < z→∀ y,c.ear[i]? = some y→lngP 250 y.bo=false) 0 (fun i hi=>absurd hi (Nat.not_lt_zero _)) le_of (fun z hz Q' hn he hr hp=>?_)
 repeat' first | refine s_ ?_ | fail
 refine d_ (fun hb=>?_) (fun hb=>?_)
 · have hlt:z < c.ear.length:=by have:=oR hb;omega
   obtain ⟨x,hgx⟩:∃ x,c.ear[z]? = some x:=⟨_,gE hlt⟩
   repeat' first | refine s_ ?_ | fail
   refine el (by exact rfl) (pk_get hgx) ?_ (by omega)
   unfold Pk.d
   repeat' first | refine s_ ?_ | fail
   by_cases hx:lngP 250 x.bo=true
   · refine ct (by exact rfl) ?_ hx
     repeat' first | refine s_ ?_ | fail
     refine Z28 ?_
     repeat' first | refine s_ ?_ | fail
     exact en (by exact rfl) (by rw [any_of (p:=fun p:Pk=>lngP 250 p.bo) hgx hx];rfl)
   · refine cf (by exact rfl) ?_ (eq_false_of_ne_true hx)
     repeat' first | refine s_ ?_ | fail
     rw [show IntKind.i64.wrap ((z:Int) + 1)=((z + 1:Nat):Int) by rw [wrap_i64 (by omega) (by omega)];rfl]
     exact toL (hn _ (z + 1) (idxL_step (p:=fun p:Pk=>lngP 250 p.bo) hz hgx (eq_false_of_ne_true hx)) (by omega) le_of)
 · have hlt:c.ear.length≤z:=by have:=of_decide_eq_false hb;omega
   repeat' first | refine s_ ?_ | fail
   refine Z15 ?_
   repeat' first | refine s_ ?_ | fail
   exact en (by exact rfl) (by rw [any_no (p:=fun p:Pk=>lngP 250 p.bo) (xs:=c.ear) (fun i hi y hy=>hz i (by omega) y hy)];rfl)
end
section
set_option maxRecDepth 100000 in
theorem c20 (c:Ch) (hc:c.Few):Pf Tryd.prog 20 [c.d,c.d] (.d (.bool true)):=by
 obtain ⟨h0,h1,h2,h3,h4,h5⟩:=hc
 have qa:=c32 c.una c.una (by omega) (by omega)
 have qb:=c32 c.wai c.wai (by omega) (by omega)
 have qc:=c32 c.del c.del (by omega) (by omega)
 have qd:=c32 c.tos c.tos (by omega) (by omega)
 have qe:=c32 c.bak c.bak (by omega) (by omega)
 have le:(c.ear.map Pk.d).length=c.ear.length:=List.length_map ..
 unfold Ch.d strs
 refine pfb Tryd.func20 Tryd.ntmps20 Tryd.results20 (fun S0 O0 w0 m0 hm0=>?_)
 iterate 5 refine s_ ?_
 refine Z8 ?_;refine Z8 ?_
 repeat' first | refine s_ ?_ | fail
 refine cf (by exact rfl) ?_ (by simp)
 repeat' first | refine s_ ?_ | fail
 refine gLo (fun z:Nat=>⟨[(2,.d (.ptr (.agg [.int .i64 c.win,.int .i64 c.base,.int .i64 c.nxt,.sl (c.una.map D.str),.sl (c.wai.map D.str),.int .i64 c.exp,.sl (c.ear.map Pk.d),.sl (c.del.map D.str),.sl (c.tos.map D.str),.sl (c.bak.map D.str)]))),(3,.d (.ptr (.agg [.int .i64 c.win,.int .i64 c.base,.int .i64 c.nxt,.sl (c.una.map D.str),.sl (c.wai.map D.str),.int .i64 c.exp,.sl (c.ear.map Pk.d),.sl (c.del.map D.str),.sl (c.tos.map D.str),.sl (c.bak.map D.str)]))),(5,.d (.int .i64 (z:Int)))],[]⟩) (fun z=>c.ear.length - z) (fun z=>z≤c.ear.length) 0 (Nat.zero_le _) le_of (fun z hz Q' hn he hr hp=>?_)
 repeat' first | refine s_ ?_ | fail
 refine d_ (fun hb=>?_) (fun hb=>?_)
 · have hlt:z < c.ear.length:=by have:=oR hb;omega
   obtain ⟨x,hgx⟩:∃ x,c.ear[z]? = some x:=⟨_,gE hlt⟩
   have hgx2:(c.ear.map Pk.d)[z]? = some (.agg [.int .i64 x.kd,.int .i64 x.nu,.str x.bo]):=pk_get hgx
   have hz0:(0:Int)≤(z:Int):=by omega
   repeat' first | refine s_ ?_ | fail
   refine Z9 ?_
   iterate 3 refine ov (hc:=?_)
   refine oi (hd:=hgx2) (hc:=?_)
   iterate 5 refine ov (hc:=?_)
   refine oi (hd:=hgx2) (hc:=?_)
   iterate 7 refine ov (hc:=?_)
   refine Z26 ?_
   iterate 5 refine ov (hc:=?_)
   refine Z26 ?_
   iterate 8 refine ov (hc:=?_)
   refine Z26 ?_
   iterate 5 refine ov (hc:=?_)
   refine Z26 ?_
   iterate 4 refine ov (hc:=?_)
   refine Z7 ?_
   repeat' first | refine s_ ?_ | fail
   refine cf (by exact rfl) ?_ (by simp)
   repeat' first | refine s_ ?_ | fail
   rw [show IntKind.i64.wrap ((z:Int) + 1)=((z + 1:Nat):Int) by rw [wrap_i64 (by omega) (by omega)];rfl]
   exact toL (hn _ (z + 1) (by show z + 1≤c.ear.length;omega) (by omega) le_of)
 · repeat' first | refine s_ ?_ | fail
   refine Z15 ?_
   repeat' first | refine s_ ?_ | refine c_ qa ?_ | refine clg (by exact rfl) (fun _=>qb) ?_ | refine clg (by exact rfl) (fun _=>qc) ?_ | refine clg (by exact rfl) (fun _=>qd) ?_ | refine clg (by exact rfl) (fun _=>qe) ?_ | fail
   exact en (by exact rfl) (by simp)
end
section
theorem fewB_len {l:List ByteArray} {n:Int} (hn:n≤202) (h:fewB l n=true):l.length≤202:=by
 unfold fewB at h
 rw [Bool.and_eq_true] at h
 have h1:=h.1
 by_cases hl:l.length≤202
 · exact hl
 · exfalso
   have h2:decide ((l.length:Int) > n)=true:=decide_eq_true (by omega)
   have h3:decide ((l.length:Int) > 202)=true:=decide_eq_true (by omega)
   rw [h2,h3] at h1
   simp at h1
structure Ch.Sm (c:Ch):Prop where
 una:c.una.length≤20000
 wai:c.wai.length≤20000
 ear:c.ear.length≤20000
 del:c.del.length≤20000
 tos:c.tos.length≤20000
 bak:c.bak.length≤20000
variable {c:Ch}
theorem sma_of (h:smaB c=true):c.Sm:=by
 unfold smaB at h
 rw [Bool.and_eq_true] at h
 have h1:=h.1
 unfold smaL at h1
 simp only [Bool.not_or,Bool.not_not,Bool.and_eq_true,Bool.not_eq_true',decide_eq_false_iff_not] at h1
 obtain ⟨⟨⟨⟨⟨g0,g1⟩,g2⟩,g3⟩,g4⟩,g5⟩:=h1
 have k1:=fewB_len (by decide) g1;have k2:=fewB_len (by decide) g2;have k3:=fewB_len (by decide) g3;have k4:=fewB_len (by decide) g4;have k5:=fewB_len (by decide) g5
 exact ⟨by omega,by omega,by omega,by omega,by omega,by omega⟩
theorem Ch.Sm.few (h:c.Sm):c.Few:=⟨by have:=h.una;omega,by have:=h.wai;omega,by have:=h.ear;omega,by have:=h.del;omega,by have:=h.tos;omega,by have:=h.bak;omega⟩
theorem earB_get {nxt:Int}:∀ {l:List Pk} {last:Int},earB nxt last l=true→∀ (i:Nat) q,l[i]? = some q→last < q.nu∧q.nu < nxt∧q.kd=1∧q.bo.size≤200
 | [],_,_,i,q,hq=>by simp at hq
 | p :: r,last,h,i,q,hq=>by
  unfold earB at h
  rw [Bool.and_eq_true] at h
  obtain ⟨h1,h2⟩:=h
  have h1':(p.kd != 1 || decide (p.nu≤last) || decide (p.nu ≥ nxt) || decide ((p.bo.size:Int) > 200))=false:=by simpa using h1
  simp only [Bool.or_eq_false_iff,decide_eq_false_iff_not] at h1'
  obtain ⟨⟨⟨k1,k2⟩,k3⟩,k4⟩:=h1'
  have k1':p.kd=1:=by simpa using k1
  match i,hq with
  | 0,hq=>injection hq with hq;subst hq;exact ⟨by omega,by omega,k1',by omega⟩
  | i + 1,hq=>
   obtain ⟨g1,g2,g3,g4⟩:=earB_get h2 i q hq
   exact ⟨by omega,g2,g3,g4⟩
theorem earB_sorted {nxt:Int}:∀ {l:List Pk} {last:Int},earB nxt last l=true→SortedE l
 | [],_,_=>fun i j a b ha _ _=>by simp at ha
 | p :: r,last,h=>by
  unfold earB at h
  rw [Bool.and_eq_true] at h
  intro i j a b ha hb hij
  match i,j,ha,hb,hij with
  | 0,j + 1,ha,hb,_=>
   injection ha with ha;subst ha
   exact (earB_get h.2 j b hb).1
  | i + 1,j + 1,ha,hb,hij=>exact earB_sorted h.2 i j a b ha hb (by omega)
structure Ch.Rt (c:Ch):Prop where
 win0:1≤c.win
 win1:c.win≤16
 base0:0≤c.base
 una:c.nxt - c.base=(c.una.length:Int)
 unaw:(c.una.length:Int)≤c.win
 wai:(c.una.length:Int) < c.win→c.wai=[]
 nxt:c.nxt + (c.wai.length:Int)≤10000
 exp0:c.base≤c.exp
 exp1:c.exp≤c.nxt
 expd:c.exp=(c.del.length:Int)
 earb:earB c.nxt c.exp c.ear=true
theorem rt_of (hs:c.Sm) (h:chkC c=false):c.Rt:=by
 unfold chkC at h
 simp only [Bool.or_eq_false_iff] at h
 obtain ⟨⟨⟨⟨⟨h1,h2⟩,h3⟩,h4⟩,h5⟩,h6⟩:=h
 unfold chk1 at h1
 unfold chk2 at h2
 unfold chk3 at h3
 simp only [Bool.or_eq_false_iff,decide_eq_false_iff_not,bne_eq_false_iff_eq] at h1 h2 h3
 obtain ⟨⟨⟨⟨⟨a1,a2⟩,a3⟩,a4⟩,a5⟩,a6⟩:=h1
 obtain ⟨⟨b1,b2⟩,b3⟩:=h2
 obtain ⟨⟨d1,d2⟩,d3⟩:=h3
 have g1:=hs.una
 have g2:=hs.wai
 have w1:IntKind.i64.wrap (c.nxt - c.base)=c.nxt - c.base:=by simp [IntKind.wrap,IntKind.signed,IntKind.bits];omega
 have w2:IntKind.i64.wrap (c.nxt + (c.wai.length:Int))=c.nxt + (c.wai.length:Int):=by simp [IntKind.wrap,IntKind.signed,IntKind.bits];omega
 rw [w1] at a5
 rw [w2] at b3
 refine ⟨by omega,by omega,by omega,a5,by omega,fun hl=>?_,by omega,by omega,by omega,d3,by simpa using h4⟩
 have:¬ (c.wai.length:Int) > 0:=by
  intro hw
  rw [decide_eq_true hl,decide_eq_true hw] at b1
  cases b1
 exact Y4
theorem rcv_of (hs:c.Sm) (hr:c.Rt):c.Rcv:=by
 have g:=hs.del
 have g2:=hs.ear
 have b0:=hr.base0;have b1:=hr.exp0;have b2:=hr.exp1;have b3:=hr.nxt;have b4:=hr.win0;have b5:=hr.win1
 refine ⟨hs.few,by omega,earB_sorted hr.earb,fun q hq=>?_,by omega,by omega,by omega,by omega,by omega⟩
 obtain ⟨i,hi⟩:=List.getElem?_of_mem hq
 obtain ⟨h1,h2,_,_⟩:=earB_get hr.earb i q hi
 omega
end
section
set_option maxRecDepth 100000 in
theorem c21L_1t (c c':Ch) (ix at_ e:Int) (hc:c.Few) (hk:chkC c=false) (h0:0≤ix) (h1:ix < (c.tos.length:Int)) (hm:MtL 45 [.ref 0 0,.d (acD 1 false ix at_)] c (.d (.int .i64 e)) c'):PL 21 [c.d,acD 1 false ix at_] (.tup [.d (if e=0 then c' else zeroC).d,.d (.int .i64 e)]):=by
 have hc':=hc
 obtain ⟨g0,g1,g2,g3,g4,g5⟩:=hc'
 have q16:=c16 c (by omega) (by omega) (by omega) (by omega) (by omega) (by omega)
 rw [hk] at q16
 have q40:=c40 c hc
 have q44:=c44Dt c 1 ix at_
 unfold acD at q44 hm ⊢
 unfold Ch.d at q16 q40 ⊢
 refine plB Tryd.func21 Tryd.ntmps21 Tryd.results21 (fun S0 O0 w0 m0 hL hm0=>?_)
 repeat' first | refine s_ ?_ | refine c_ q16 ?_ | fail
 refine Z1 ?_
 repeat' first | refine s_ ?_ | fail
 refine Z1 ?_
 repeat' first | refine s_ ?_ | fail
 have hgd:(1 != 5 && decide (ix < 0) == false)=true:=by simp;omega
 refine Z38 ?_
 iterate 10 refine ov (hc:=?_)
 refine oStep (p:=.d (.agg [.int .i64 1,.bool false,.int .i64 ix,.int .i64 at_])) (by exact rfl) (by exact rfl) (by exact rfl) ?_ (fun rest _ hg=>gOn (by exact rfl) hgd rfl rfl rfl rfl rfl (oR rfl) (st (by exact rfl) (gOnEnd hg)))
 refine oStep (p:=.ref 0 8) (by exact rfl) (by exact rfl) (by exact rfl) ?_ (fun rest _ hg=>gOn (by exact rfl) hgd rfl rfl rfl rfl rfl (oR rfl) (cs [0] (by exact rfl) q44 (gOnEnd hg)))
 iterate 6 refine ov (hc:=?_)
 refine Z36 ?_
 refine cf (by exact rfl) ?_ (by rw [List.length_map];simp;omega)
 repeat' first | refine s_ ?_ | fail
 refine cn (by exact rfl) q40 (r':=.agg (ChA c p0 6 7 8 9 10 11)) (mem':=(chD c :: [.d (.int .i64 1),.d (.bool false),.d (.int .i64 ix),.d (.int .i64 at_)] :: zcel :: unk 10 :: unk 10 :: unk 5 :: ChR c p0)) ?_ rfl (by rw [List.map_append,ChR_rens];rfl)
 repeat' first | refine s_ ?_ | fail
 refine Z3 ?_
 refine (show GF _ _ _ _ ⟨_,ChA c p0 6 7 8 9 10 11 :: [.d (.int .i64 1),.d (.bool false),.d (.int .i64 ix),.d (.int .i64 at_)] :: zcel :: unk 10 :: unk 10 :: unk 5 :: (ChR c p0++[[.d .nilF,.d (.fn (.func 45) [] []),.d (.fn (.func 46) [] []),.d (.fn (.func 47) [] []),.d (.fn (.func 48) [] []),.d (.fn (.func 49) [] [])]])⟩ from ?_)
 refine tab5L 5 51 [(0,46,.ref 1 0),(1,47,.d (.int .i64 1)),(2,48,.ref 12 (0 + (1:Int).toNat * 1)),(3,49,.d (.fn (.func 45) [] [])),(4,50,.d (.agg [.int .i64 1,.bool false,.int .i64 ix,.int .i64 at_]))] [(6,8,.d (.int .i64 e))] [0,1,2,3,4,6] (by exact rfl) (by exact rfl) (fun rest=>rfl) hL hm p0_ok (fun a=>?_) (fun p' hp'=>?_)
 · refine ⟨?_,?_,?_,?_,?_,?_,trivial⟩
   iterate 2 exact ta_
   · exact tav (pre:=(47,.d (.int .i64 1)) :: [(2,.ref 0 0),(3,.ref 1 0),(4,.ref 2 0),(7,.ref 12 0)]) rfl rfl rfl rfl (by kernel_rfl) (fun _=>rfl) (fun rest ht=>by exact Q_arrAddr (b:=12) (o:=0) (m:=1) (k:=.i64) (i:=1) rfl rfl und91 (by kernel_rfl) (by decide) (by decide))
   · exact tav (pre:=(48,.ref 12 (0 + (1:Int).toNat * 1)) :: [(2,.ref 0 0),(3,.ref 1 0),(4,.ref 2 0),(7,.ref 12 0)]) rfl rfl rfl rfl (by kernel_rfl) (fun _=>rfl) (fun rest ht=>by exact Q_load_leaf (b:=12) (off:=0 + (1:Int).toNat * 1) (p:=.d (.fn (.func 45) [] [])) rfl rfl rfl und88 rfl rfl rfl ht)
   · exact ta_
   · exact tq3 (by exact rfl) (by exact rfl) rfl rfl (by exact fun _ _=>rfl)
 · refine s_ ?_
   refine Z5 ?_
   repeat' first | refine s_ ?_ | fail
   refine d_ (fun hb=>?_) (fun hb=>?_)
   · have he:¬ e=0:=by simpa using hb
     rw [if_neg he]
     repeat' first | refine s_ ?_ | fail
     exact e_
   · have he:e=0:=by simpa using hb
     subst he
     rw [if_pos rfl]
     refine Z11 ?_
     refine fg 12 (by exact rfl) ?_ rfl (by omega) (by show (PV.refsBs 12 (ChA c' p' 6 7 8 9 10 11) && (PV.refsBs 12 _ && (PV.refsBs 12 _ && (PV.refsBs 12 _ && (PV.refsBs 12 _ && (PV.refsBs 12 _ && (ChR c' p').all (PV.refsBs 12)))))))=true;rw [ChR_refs];rfl)
     refine (show GF _ _ _ _ ⟨_,ChA c' p' 6 7 8 9 10 11 :: [.d (.int .i64 1),.d (.bool false),.d (.int .i64 ix),.d (.int .i64 at_)] :: zcel :: unk 10 :: unk 10 :: unk 5 :: ChR c' p'⟩ from ?_)
     refine gChD5 hp' ?_ (by show m0.length≤6;omega)
     repeat' first | refine s_ ?_ | fail
     exact e_
set_option maxRecDepth 100000 in
theorem c21L_1b (c c':Ch) (ix at_ e:Int) (hc:c.Few) (hk:chkC c=false) (h0:0≤ix) (h1:ix < (c.bak.length:Int)) (hm:MtL 45 [.ref 0 0,.d (acD 1 true ix at_)] c (.d (.int .i64 e)) c'):PL 21 [c.d,acD 1 true ix at_] (.tup [.d (if e=0 then c' else zeroC).d,.d (.int .i64 e)]):=by
 have hc':=hc
 obtain ⟨g0,g1,g2,g3,g4,g5⟩:=hc'
 have q16:=c16 c (by omega) (by omega) (by omega) (by omega) (by omega) (by omega)
 rw [hk] at q16
 have q40:=c40 c hc
 have q44:=c44Db c 1 ix at_
 unfold acD at q44 hm ⊢
 unfold Ch.d at q16 q40 ⊢
 refine plB Tryd.func21 Tryd.ntmps21 Tryd.results21 (fun S0 O0 w0 m0 hL hm0=>?_)
 repeat' first | refine s_ ?_ | refine c_ q16 ?_ | fail
 refine Z1 ?_
 repeat' first | refine s_ ?_ | fail
 refine Z1 ?_
 repeat' first | refine s_ ?_ | fail
 have hgd:(1 != 5 && decide (ix < 0) == false)=true:=by simp;omega
 refine Z38 ?_
 iterate 10 refine ov (hc:=?_)
 refine oStep (p:=.d (.agg [.int .i64 1,.bool true,.int .i64 ix,.int .i64 at_])) (by exact rfl) (by exact rfl) (by exact rfl) ?_ (fun rest _ hg=>gOn (by exact rfl) hgd rfl rfl rfl rfl rfl (oR rfl) (st (by exact rfl) (gOnEnd hg)))
 refine oStep (p:=.ref 0 9) (by exact rfl) (by exact rfl) (by exact rfl) ?_ (fun rest _ hg=>gOn (by exact rfl) hgd rfl rfl rfl rfl rfl (oR rfl) (cs [0] (by exact rfl) q44 (gOnEnd hg)))
 iterate 6 refine ov (hc:=?_)
 refine Z36 ?_
 refine cf (by exact rfl) ?_ (by rw [List.length_map];simp;omega)
 repeat' first | refine s_ ?_ | fail
 refine cn (by exact rfl) q40 (r':=.agg (ChA c p0 6 7 8 9 10 11)) (mem':=(chD c :: [.d (.int .i64 1),.d (.bool true),.d (.int .i64 ix),.d (.int .i64 at_)] :: zcel :: unk 10 :: unk 10 :: unk 5 :: ChR c p0)) ?_ rfl (by rw [List.map_append,ChR_rens];rfl)
 repeat' first | refine s_ ?_ | fail
 refine Z3 ?_
 refine (show GF _ _ _ _ ⟨_,ChA c p0 6 7 8 9 10 11 :: [.d (.int .i64 1),.d (.bool true),.d (.int .i64 ix),.d (.int .i64 at_)] :: zcel :: unk 10 :: unk 10 :: unk 5 :: (ChR c p0++[[.d .nilF,.d (.fn (.func 45) [] []),.d (.fn (.func 46) [] []),.d (.fn (.func 47) [] []),.d (.fn (.func 48) [] []),.d (.fn (.func 49) [] [])]])⟩ from ?_)
 refine tab5L 5 51 [(0,46,.ref 1 0),(1,47,.d (.int .i64 1)),(2,48,.ref 12 (0 + (1:Int).toNat * 1)),(3,49,.d (.fn (.func 45) [] [])),(4,50,.d (.agg [.int .i64 1,.bool true,.int .i64 ix,.int .i64 at_]))] [(6,8,.d (.int .i64 e))] [0,1,2,3,4,6] (by exact rfl) (by exact rfl) (fun rest=>rfl) hL hm p0_ok (fun a=>?_) (fun p' hp'=>?_)
 · refine ⟨?_,?_,?_,?_,?_,?_,trivial⟩
   iterate 2 exact ta_
   · exact tav (pre:=(47,.d (.int .i64 1)) :: [(2,.ref 0 0),(3,.ref 1 0),(4,.ref 2 0),(7,.ref 12 0)]) rfl rfl rfl rfl (by kernel_rfl) (fun _=>rfl) (fun rest ht=>by exact Q_arrAddr (b:=12) (o:=0) (m:=1) (k:=.i64) (i:=1) rfl rfl und91 (by kernel_rfl) (by decide) (by decide))
   · exact tav (pre:=(48,.ref 12 (0 + (1:Int).toNat * 1)) :: [(2,.ref 0 0),(3,.ref 1 0),(4,.ref 2 0),(7,.ref 12 0)]) rfl rfl rfl rfl (by kernel_rfl) (fun _=>rfl) (fun rest ht=>by exact Q_load_leaf (b:=12) (off:=0 + (1:Int).toNat * 1) (p:=.d (.fn (.func 45) [] [])) rfl rfl rfl und88 rfl rfl rfl ht)
   · exact ta_
   · exact tq3 (by exact rfl) (by exact rfl) rfl rfl (by exact fun _ _=>rfl)
 · refine s_ ?_
   refine Z5 ?_
   repeat' first | refine s_ ?_ | fail
   refine d_ (fun hb=>?_) (fun hb=>?_)
   · have he:¬ e=0:=by simpa using hb
     rw [if_neg he]
     repeat' first | refine s_ ?_ | fail
     exact e_
   · have he:e=0:=by simpa using hb
     subst he
     rw [if_pos rfl]
     refine Z11 ?_
     refine fg 12 (by exact rfl) ?_ rfl (by omega) (by show (PV.refsBs 12 (ChA c' p' 6 7 8 9 10 11) && (PV.refsBs 12 _ && (PV.refsBs 12 _ && (PV.refsBs 12 _ && (PV.refsBs 12 _ && (PV.refsBs 12 _ && (ChR c' p').all (PV.refsBs 12)))))))=true;rw [ChR_refs];rfl)
     refine (show GF _ _ _ _ ⟨_,ChA c' p' 6 7 8 9 10 11 :: [.d (.int .i64 1),.d (.bool true),.d (.int .i64 ix),.d (.int .i64 at_)] :: zcel :: unk 10 :: unk 10 :: unk 5 :: ChR c' p'⟩ from ?_)
     refine gChD5 hp' ?_ (by show m0.length≤6;omega)
     repeat' first | refine s_ ?_ | fail
     exact e_
end
section
set_option maxRecDepth 100000 in
theorem c21L_2t (c c':Ch) (ix at_ e:Int) (hc:c.Few) (hk:chkC c=false) (h0:0≤ix) (h1:ix < (c.tos.length:Int)) (hm:MtL 46 [.ref 0 0,.d (acD 2 false ix at_)] c (.d (.int .i64 e)) c'):PL 21 [c.d,acD 2 false ix at_] (.tup [.d (if e=0 then c' else zeroC).d,.d (.int .i64 e)]):=by
 have hc':=hc
 obtain ⟨g0,g1,g2,g3,g4,g5⟩:=hc'
 have q16:=c16 c (by omega) (by omega) (by omega) (by omega) (by omega) (by omega)
 rw [hk] at q16
 have q40:=c40 c hc
 have q44:=c44Dt c 2 ix at_
 unfold acD at q44 hm ⊢
 unfold Ch.d at q16 q40 ⊢
 refine plB Tryd.func21 Tryd.ntmps21 Tryd.results21 (fun S0 O0 w0 m0 hL hm0=>?_)
 repeat' first | refine s_ ?_ | refine c_ q16 ?_ | fail
 refine Z1 ?_
 repeat' first | refine s_ ?_ | fail
 refine Z1 ?_
 repeat' first | refine s_ ?_ | fail
 have hgd:(2 != 5 && decide (ix < 0) == false)=true:=by simp;omega
 refine Z38 ?_
 iterate 10 refine ov (hc:=?_)
 refine oStep (p:=.d (.agg [.int .i64 2,.bool false,.int .i64 ix,.int .i64 at_])) (by exact rfl) (by exact rfl) (by exact rfl) ?_ (fun rest _ hg=>gOn (by exact rfl) hgd rfl rfl rfl rfl rfl (oR rfl) (st (by exact rfl) (gOnEnd hg)))
 refine oStep (p:=.ref 0 8) (by exact rfl) (by exact rfl) (by exact rfl) ?_ (fun rest _ hg=>gOn (by exact rfl) hgd rfl rfl rfl rfl rfl (oR rfl) (cs [0] (by exact rfl) q44 (gOnEnd hg)))
 iterate 6 refine ov (hc:=?_)
 refine Z36 ?_
 refine cf (by exact rfl) ?_ (by rw [List.length_map];simp;omega)
 repeat' first | refine s_ ?_ | fail
 refine cn (by exact rfl) q40 (r':=.agg (ChA c p0 6 7 8 9 10 11)) (mem':=(chD c :: [.d (.int .i64 2),.d (.bool false),.d (.int .i64 ix),.d (.int .i64 at_)] :: zcel :: unk 10 :: unk 10 :: unk 5 :: ChR c p0)) ?_ rfl (by rw [List.map_append,ChR_rens];rfl)
 repeat' first | refine s_ ?_ | fail
 refine Z3 ?_
 refine (show GF _ _ _ _ ⟨_,ChA c p0 6 7 8 9 10 11 :: [.d (.int .i64 2),.d (.bool false),.d (.int .i64 ix),.d (.int .i64 at_)] :: zcel :: unk 10 :: unk 10 :: unk 5 :: (ChR c p0++[[.d .nilF,.d (.fn (.func 45) [] []),.d (.fn (.func 46) [] []),.d (.fn (.func 47) [] []),.d (.fn (.func 48) [] []),.d (.fn (.func 49) [] [])]])⟩ from ?_)
 refine tab5L 5 51 [(0,46,.ref 1 0),(1,47,.d (.int .i64 2)),(2,48,.ref 12 (0 + (2:Int).toNat * 1)),(3,49,.d (.fn (.func 46) [] [])),(4,50,.d (.agg [.int .i64 2,.bool false,.int .i64 ix,.int .i64 at_]))] [(6,8,.d (.int .i64 e))] [0,1,2,3,4,6] (by exact rfl) (by exact rfl) (fun rest=>rfl) hL hm p0_ok (fun a=>?_) (fun p' hp'=>?_)
 · refine ⟨?_,?_,?_,?_,?_,?_,trivial⟩
   iterate 2 exact ta_
   · exact tav (pre:=(47,.d (.int .i64 2)) :: [(2,.ref 0 0),(3,.ref 1 0),(4,.ref 2 0),(7,.ref 12 0)]) rfl rfl rfl rfl (by kernel_rfl) (fun _=>rfl) (fun rest ht=>by exact Q_arrAddr (b:=12) (o:=0) (m:=1) (k:=.i64) (i:=2) rfl rfl und91 (by kernel_rfl) (by decide) (by decide))
   · exact tav (pre:=(48,.ref 12 (0 + (2:Int).toNat * 1)) :: [(2,.ref 0 0),(3,.ref 1 0),(4,.ref 2 0),(7,.ref 12 0)]) rfl rfl rfl rfl (by kernel_rfl) (fun _=>rfl) (fun rest ht=>by exact Q_load_leaf (b:=12) (off:=0 + (2:Int).toNat * 1) (p:=.d (.fn (.func 46) [] [])) rfl rfl rfl und88 rfl rfl rfl ht)
   · exact ta_
   · exact tq3 (by exact rfl) (by exact rfl) rfl rfl (by exact fun _ _=>rfl)
 · refine s_ ?_
   refine Z5 ?_
   repeat' first | refine s_ ?_ | fail
   refine d_ (fun hb=>?_) (fun hb=>?_)
   · have he:¬ e=0:=by simpa using hb
     rw [if_neg he]
     repeat' first | refine s_ ?_ | fail
     exact e_
   · have he:e=0:=by simpa using hb
     subst he
     rw [if_pos rfl]
     refine Z11 ?_
     refine fg 12 (by exact rfl) ?_ rfl (by omega) (by show (PV.refsBs 12 (ChA c' p' 6 7 8 9 10 11) && (PV.refsBs 12 _ && (PV.refsBs 12 _ && (PV.refsBs 12 _ && (PV.refsBs 12 _ && (PV.refsBs 12 _ && (ChR c' p').all (PV.refsBs 12)))))))=true;rw [ChR_refs];rfl)
     refine (show GF _ _ _ _ ⟨_,ChA c' p' 6 7 8 9 10 11 :: [.d (.int .i64 2),.d (.bool false),.d (.int .i64 ix),.d (.int .i64 at_)] :: zcel :: unk 10 :: unk 10 :: unk 5 :: ChR c' p'⟩ from ?_)
     refine gChD5 hp' ?_ (by show m0.length≤6;omega)
     repeat' first | refine s_ ?_ | fail
     exact e_
set_option maxRecDepth 100000 in
theorem c21L_2b (c c':Ch) (ix at_ e:Int) (hc:c.Few) (hk:chkC c=false) (h0:0≤ix) (h1:ix < (c.bak.length:Int)) (hm:MtL 46 [.ref 0 0,.d (acD 2 true ix at_)] c (.d (.int .i64 e)) c'):PL 21 [c.d,acD 2 true ix at_] (.tup [.d (if e=0 then c' else zeroC).d,.d (.int .i64 e)]):=by
 have hc':=hc
 obtain ⟨g0,g1,g2,g3,g4,g5⟩:=hc'
 have q16:=c16 c (by omega) (by omega) (by omega) (by omega) (by omega) (by omega)
 rw [hk] at q16
 have q40:=c40 c hc
 have q44:=c44Db c 2 ix at_
 unfold acD at q44 hm ⊢
 unfold Ch.d at q16 q40 ⊢
 refine plB Tryd.func21 Tryd.ntmps21 Tryd.results21 (fun S0 O0 w0 m0 hL hm0=>?_)
 repeat' first | refine s_ ?_ | refine c_ q16 ?_ | fail
 refine Z1 ?_
 repeat' first | refine s_ ?_ | fail
 refine Z1 ?_
 repeat' first | refine s_ ?_ | fail
 have hgd:(2 != 5 && decide (ix < 0) == false)=true:=by simp;omega
 refine Z38 ?_
 iterate 10 refine ov (hc:=?_)
 refine oStep (p:=.d (.agg [.int .i64 2,.bool true,.int .i64 ix,.int .i64 at_])) (by exact rfl) (by exact rfl) (by exact rfl) ?_ (fun rest _ hg=>gOn (by exact rfl) hgd rfl rfl rfl rfl rfl (oR rfl) (st (by exact rfl) (gOnEnd hg)))
 refine oStep (p:=.ref 0 9) (by exact rfl) (by exact rfl) (by exact rfl) ?_ (fun rest _ hg=>gOn (by exact rfl) hgd rfl rfl rfl rfl rfl (oR rfl) (cs [0] (by exact rfl) q44 (gOnEnd hg)))
 iterate 6 refine ov (hc:=?_)
 refine Z36 ?_
 refine cf (by exact rfl) ?_ (by rw [List.length_map];simp;omega)
 repeat' first | refine s_ ?_ | fail
 refine cn (by exact rfl) q40 (r':=.agg (ChA c p0 6 7 8 9 10 11)) (mem':=(chD c :: [.d (.int .i64 2),.d (.bool true),.d (.int .i64 ix),.d (.int .i64 at_)] :: zcel :: unk 10 :: unk 10 :: unk 5 :: ChR c p0)) ?_ rfl (by rw [List.map_append,ChR_rens];rfl)
 repeat' first | refine s_ ?_ | fail
 refine Z3 ?_
 refine (show GF _ _ _ _ ⟨_,ChA c p0 6 7 8 9 10 11 :: [.d (.int .i64 2),.d (.bool true),.d (.int .i64 ix),.d (.int .i64 at_)] :: zcel :: unk 10 :: unk 10 :: unk 5 :: (ChR c p0++[[.d .nilF,.d (.fn (.func 45) [] []),.d (.fn (.func 46) [] []),.d (.fn (.func 47) [] []),.d (.fn (.func 48) [] []),.d (.fn (.func 49) [] [])]])⟩ from ?_)
 refine tab5L 5 51 [(0,46,.ref 1 0),(1,47,.d (.int .i64 2)),(2,48,.ref 12 (0 + (2:Int).toNat * 1)),(3,49,.d (.fn (.func 46) [] [])),(4,50,.d (.agg [.int .i64 2,.bool true,.int .i64 ix,.int .i64 at_]))] [(6,8,.d (.int .i64 e))] [0,1,2,3,4,6] (by exact rfl) (by exact rfl) (fun rest=>rfl) hL hm p0_ok (fun a=>?_) (fun p' hp'=>?_)
 · refine ⟨?_,?_,?_,?_,?_,?_,trivial⟩
   iterate 2 exact ta_
   · exact tav (pre:=(47,.d (.int .i64 2)) :: [(2,.ref 0 0),(3,.ref 1 0),(4,.ref 2 0),(7,.ref 12 0)]) rfl rfl rfl rfl (by kernel_rfl) (fun _=>rfl) (fun rest ht=>by exact Q_arrAddr (b:=12) (o:=0) (m:=1) (k:=.i64) (i:=2) rfl rfl und91 (by kernel_rfl) (by decide) (by decide))
   · exact tav (pre:=(48,.ref 12 (0 + (2:Int).toNat * 1)) :: [(2,.ref 0 0),(3,.ref 1 0),(4,.ref 2 0),(7,.ref 12 0)]) rfl rfl rfl rfl (by kernel_rfl) (fun _=>rfl) (fun rest ht=>by exact Q_load_leaf (b:=12) (off:=0 + (2:Int).toNat * 1) (p:=.d (.fn (.func 46) [] [])) rfl rfl rfl und88 rfl rfl rfl ht)
   · exact ta_
   · exact tq3 (by exact rfl) (by exact rfl) rfl rfl (by exact fun _ _=>rfl)
 · refine s_ ?_
   refine Z5 ?_
   repeat' first | refine s_ ?_ | fail
   refine d_ (fun hb=>?_) (fun hb=>?_)
   · have he:¬ e=0:=by simpa using hb
     rw [if_neg he]
     repeat' first | refine s_ ?_ | fail
     exact e_
   · have he:e=0:=by simpa using hb
     subst he
     rw [if_pos rfl]
     refine Z11 ?_
     refine fg 12 (by exact rfl) ?_ rfl (by omega) (by show (PV.refsBs 12 (ChA c' p' 6 7 8 9 10 11) && (PV.refsBs 12 _ && (PV.refsBs 12 _ && (PV.refsBs 12 _ && (PV.refsBs 12 _ && (PV.refsBs 12 _ && (ChR c' p').all (PV.refsBs 12)))))))=true;rw [ChR_refs];rfl)
     refine (show GF _ _ _ _ ⟨_,ChA c' p' 6 7 8 9 10 11 :: [.d (.int .i64 2),.d (.bool true),.d (.int .i64 ix),.d (.int .i64 at_)] :: zcel :: unk 10 :: unk 10 :: unk 5 :: ChR c' p'⟩ from ?_)
     refine gChD5 hp' ?_ (by show m0.length≤6;omega)
     repeat' first | refine s_ ?_ | fail
     exact e_
end
section
set_option maxRecDepth 100000 in
theorem c21L_3t (c c':Ch) (ix at_ e:Int) (hc:c.Few) (hk:chkC c=false) (h0:0≤ix) (h1:ix < (c.tos.length:Int)) (hm:MtL 47 [.ref 0 0,.d (acD 3 false ix at_)] c (.d (.int .i64 e)) c'):PL 21 [c.d,acD 3 false ix at_] (.tup [.d (if e=0 then c' else zeroC).d,.d (.int .i64 e)]):=by
 have hc':=hc
 obtain ⟨g0,g1,g2,g3,g4,g5⟩:=hc'
 have q16:=c16 c (by omega) (by omega) (by omega) (by omega) (by omega) (by omega)
 rw [hk] at q16
 have q40:=c40 c hc
 have q44:=c44Dt c 3 ix at_
 unfold acD at q44 hm ⊢
 unfold Ch.d at q16 q40 ⊢
 refine plB Tryd.func21 Tryd.ntmps21 Tryd.results21 (fun S0 O0 w0 m0 hL hm0=>?_)
 repeat' first | refine s_ ?_ | refine c_ q16 ?_ | fail
 refine Z1 ?_
 repeat' first | refine s_ ?_ | fail
 refine Z1 ?_
 repeat' first | refine s_ ?_ | fail
 have hgd:(3 != 5 && decide (ix < 0) == false)=true:=by simp;omega
 refine Z38 ?_
 iterate 10 refine ov (hc:=?_)
 refine oStep (p:=.d (.agg [.int .i64 3,.bool false,.int .i64 ix,.int .i64 at_])) (by exact rfl) (by exact rfl) (by exact rfl) ?_ (fun rest _ hg=>gOn (by exact rfl) hgd rfl rfl rfl rfl rfl (oR rfl) (st (by exact rfl) (gOnEnd hg)))
 refine oStep (p:=.ref 0 8) (by exact rfl) (by exact rfl) (by exact rfl) ?_ (fun rest _ hg=>gOn (by exact rfl) hgd rfl rfl rfl rfl rfl (oR rfl) (cs [0] (by exact rfl) q44 (gOnEnd hg)))
 iterate 6 refine ov (hc:=?_)
 refine Z36 ?_
 refine cf (by exact rfl) ?_ (by rw [List.length_map];simp;omega)
 repeat' first | refine s_ ?_ | fail
 refine cn (by exact rfl) q40 (r':=.agg (ChA c p0 6 7 8 9 10 11)) (mem':=(chD c :: [.d (.int .i64 3),.d (.bool false),.d (.int .i64 ix),.d (.int .i64 at_)] :: zcel :: unk 10 :: unk 10 :: unk 5 :: ChR c p0)) ?_ rfl (by rw [List.map_append,ChR_rens];rfl)
 repeat' first | refine s_ ?_ | fail
 refine Z3 ?_
 refine (show GF _ _ _ _ ⟨_,ChA c p0 6 7 8 9 10 11 :: [.d (.int .i64 3),.d (.bool false),.d (.int .i64 ix),.d (.int .i64 at_)] :: zcel :: unk 10 :: unk 10 :: unk 5 :: (ChR c p0++[[.d .nilF,.d (.fn (.func 45) [] []),.d (.fn (.func 46) [] []),.d (.fn (.func 47) [] []),.d (.fn (.func 48) [] []),.d (.fn (.func 49) [] [])]])⟩ from ?_)
 refine tab5L 5 51 [(0,46,.ref 1 0),(1,47,.d (.int .i64 3)),(2,48,.ref 12 (0 + (3:Int).toNat * 1)),(3,49,.d (.fn (.func 47) [] [])),(4,50,.d (.agg [.int .i64 3,.bool false,.int .i64 ix,.int .i64 at_]))] [(6,8,.d (.int .i64 e))] [0,1,2,3,4,6] (by exact rfl) (by exact rfl) (fun rest=>rfl) hL hm p0_ok (fun a=>?_) (fun p' hp'=>?_)
 · refine ⟨?_,?_,?_,?_,?_,?_,trivial⟩
   iterate 2 exact ta_
   · exact tav (pre:=(47,.d (.int .i64 3)) :: [(2,.ref 0 0),(3,.ref 1 0),(4,.ref 2 0),(7,.ref 12 0)]) rfl rfl rfl rfl (by kernel_rfl) (fun _=>rfl) (fun rest ht=>by exact Q_arrAddr (b:=12) (o:=0) (m:=1) (k:=.i64) (i:=3) rfl rfl und91 (by kernel_rfl) (by decide) (by decide))
   · exact tav (pre:=(48,.ref 12 (0 + (3:Int).toNat * 1)) :: [(2,.ref 0 0),(3,.ref 1 0),(4,.ref 2 0),(7,.ref 12 0)]) rfl rfl rfl rfl (by kernel_rfl) (fun _=>rfl) (fun rest ht=>by exact Q_load_leaf (b:=12) (off:=0 + (3:Int).toNat * 1) (p:=.d (.fn (.func 47) [] [])) rfl rfl rfl und88 rfl rfl rfl ht)
   · exact ta_
   · exact tq3 (by exact rfl) (by exact rfl) rfl rfl (by exact fun _ _=>rfl)
 · refine s_ ?_
   refine Z5 ?_
   repeat' first | refine s_ ?_ | fail
   refine d_ (fun hb=>?_) (fun hb=>?_)
   · have he:¬ e=0:=by simpa using hb
     rw [if_neg he]
     repeat' first | refine s_ ?_ | fail
     exact e_
   · have he:e=0:=by simpa using hb
     subst he
     rw [if_pos rfl]
     refine Z11 ?_
     refine fg 12 (by exact rfl) ?_ rfl (by omega) (by show (PV.refsBs 12 (ChA c' p' 6 7 8 9 10 11) && (PV.refsBs 12 _ && (PV.refsBs 12 _ && (PV.refsBs 12 _ && (PV.refsBs 12 _ && (PV.refsBs 12 _ && (ChR c' p').all (PV.refsBs 12)))))))=true;rw [ChR_refs];rfl)
     refine (show GF _ _ _ _ ⟨_,ChA c' p' 6 7 8 9 10 11 :: [.d (.int .i64 3),.d (.bool false),.d (.int .i64 ix),.d (.int .i64 at_)] :: zcel :: unk 10 :: unk 10 :: unk 5 :: ChR c' p'⟩ from ?_)
     refine gChD5 hp' ?_ (by show m0.length≤6;omega)
     repeat' first | refine s_ ?_ | fail
     exact e_
set_option maxRecDepth 100000 in
theorem c21L_3b (c c':Ch) (ix at_ e:Int) (hc:c.Few) (hk:chkC c=false) (h0:0≤ix) (h1:ix < (c.bak.length:Int)) (hm:MtL 47 [.ref 0 0,.d (acD 3 true ix at_)] c (.d (.int .i64 e)) c'):PL 21 [c.d,acD 3 true ix at_] (.tup [.d (if e=0 then c' else zeroC).d,.d (.int .i64 e)]):=by
 have hc':=hc
 obtain ⟨g0,g1,g2,g3,g4,g5⟩:=hc'
 have q16:=c16 c (by omega) (by omega) (by omega) (by omega) (by omega) (by omega)
 rw [hk] at q16
 have q40:=c40 c hc
 have q44:=c44Db c 3 ix at_
 unfold acD at q44 hm ⊢
 unfold Ch.d at q16 q40 ⊢
 refine plB Tryd.func21 Tryd.ntmps21 Tryd.results21 (fun S0 O0 w0 m0 hL hm0=>?_)
 repeat' first | refine s_ ?_ | refine c_ q16 ?_ | fail
 refine Z1 ?_
 repeat' first | refine s_ ?_ | fail
 refine Z1 ?_
 repeat' first | refine s_ ?_ | fail
 have hgd:(3 != 5 && decide (ix < 0) == false)=true:=by simp;omega
 refine Z38 ?_
 iterate 10 refine ov (hc:=?_)
 refine oStep (p:=.d (.agg [.int .i64 3,.bool true,.int .i64 ix,.int .i64 at_])) (by exact rfl) (by exact rfl) (by exact rfl) ?_ (fun rest _ hg=>gOn (by exact rfl) hgd rfl rfl rfl rfl rfl (oR rfl) (st (by exact rfl) (gOnEnd hg)))
 refine oStep (p:=.ref 0 9) (by exact rfl) (by exact rfl) (by exact rfl) ?_ (fun rest _ hg=>gOn (by exact rfl) hgd rfl rfl rfl rfl rfl (oR rfl) (cs [0] (by exact rfl) q44 (gOnEnd hg)))
 iterate 6 refine ov (hc:=?_)
 refine Z36 ?_
 refine cf (by exact rfl) ?_ (by rw [List.length_map];simp;omega)
 repeat' first | refine s_ ?_ | fail
 refine cn (by exact rfl) q40 (r':=.agg (ChA c p0 6 7 8 9 10 11)) (mem':=(chD c :: [.d (.int .i64 3),.d (.bool true),.d (.int .i64 ix),.d (.int .i64 at_)] :: zcel :: unk 10 :: unk 10 :: unk 5 :: ChR c p0)) ?_ rfl (by rw [List.map_append,ChR_rens];rfl)
 repeat' first | refine s_ ?_ | fail
 refine Z3 ?_
 refine (show GF _ _ _ _ ⟨_,ChA c p0 6 7 8 9 10 11 :: [.d (.int .i64 3),.d (.bool true),.d (.int .i64 ix),.d (.int .i64 at_)] :: zcel :: unk 10 :: unk 10 :: unk 5 :: (ChR c p0++[[.d .nilF,.d (.fn (.func 45) [] []),.d (.fn (.func 46) [] []),.d (.fn (.func 47) [] []),.d (.fn (.func 48) [] []),.d (.fn (.func 49) [] [])]])⟩ from ?_)
 refine tab5L 5 51 [(0,46,.ref 1 0),(1,47,.d (.int .i64 3)),(2,48,.ref 12 (0 + (3:Int).toNat * 1)),(3,49,.d (.fn (.func 47) [] [])),(4,50,.d (.agg [.int .i64 3,.bool true,.int .i64 ix,.int .i64 at_]))] [(6,8,.d (.int .i64 e))] [0,1,2,3,4,6] (by exact rfl) (by exact rfl) (fun rest=>rfl) hL hm p0_ok (fun a=>?_) (fun p' hp'=>?_)
 · refine ⟨?_,?_,?_,?_,?_,?_,trivial⟩
   iterate 2 exact ta_
   · exact tav (pre:=(47,.d (.int .i64 3)) :: [(2,.ref 0 0),(3,.ref 1 0),(4,.ref 2 0),(7,.ref 12 0)]) rfl rfl rfl rfl (by kernel_rfl) (fun _=>rfl) (fun rest ht=>by exact Q_arrAddr (b:=12) (o:=0) (m:=1) (k:=.i64) (i:=3) rfl rfl und91 (by kernel_rfl) (by decide) (by decide))
   · exact tav (pre:=(48,.ref 12 (0 + (3:Int).toNat * 1)) :: [(2,.ref 0 0),(3,.ref 1 0),(4,.ref 2 0),(7,.ref 12 0)]) rfl rfl rfl rfl (by kernel_rfl) (fun _=>rfl) (fun rest ht=>by exact Q_load_leaf (b:=12) (off:=0 + (3:Int).toNat * 1) (p:=.d (.fn (.func 47) [] [])) rfl rfl rfl und88 rfl rfl rfl ht)
   · exact ta_
   · exact tq3 (by exact rfl) (by exact rfl) rfl rfl (by exact fun _ _=>rfl)
 · refine s_ ?_
   refine Z5 ?_
   repeat' first | refine s_ ?_ | fail
   refine d_ (fun hb=>?_) (fun hb=>?_)
   · have he:¬ e=0:=by simpa using hb
     rw [if_neg he]
     repeat' first | refine s_ ?_ | fail
     exact e_
   · have he:e=0:=by simpa using hb
     subst he
     rw [if_pos rfl]
     refine Z11 ?_
     refine fg 12 (by exact rfl) ?_ rfl (by omega) (by show (PV.refsBs 12 (ChA c' p' 6 7 8 9 10 11) && (PV.refsBs 12 _ && (PV.refsBs 12 _ && (PV.refsBs 12 _ && (PV.refsBs 12 _ && (PV.refsBs 12 _ && (ChR c' p').all (PV.refsBs 12)))))))=true;rw [ChR_refs];rfl)
     refine (show GF _ _ _ _ ⟨_,ChA c' p' 6 7 8 9 10 11 :: [.d (.int .i64 3),.d (.bool true),.d (.int .i64 ix),.d (.int .i64 at_)] :: zcel :: unk 10 :: unk 10 :: unk 5 :: ChR c' p'⟩ from ?_)
     refine gChD5 hp' ?_ (by show m0.length≤6;omega)
     repeat' first | refine s_ ?_ | fail
     exact e_
end
section
set_option maxRecDepth 100000 in
theorem c21L_4t (c c':Ch) (ix at_ e:Int) (hc:c.Few) (hk:chkC c=false) (h0:0≤ix) (h1:ix < (c.tos.length:Int)) (hm:MtL 48 [.ref 0 0,.d (acD 4 false ix at_)] c (.d (.int .i64 e)) c'):PL 21 [c.d,acD 4 false ix at_] (.tup [.d (if e=0 then c' else zeroC).d,.d (.int .i64 e)]):=by
 have hc':=hc
 obtain ⟨g0,g1,g2,g3,g4,g5⟩:=hc'
 have q16:=c16 c (by omega) (by omega) (by omega) (by omega) (by omega) (by omega)
 rw [hk] at q16
 have q40:=c40 c hc
 have q44:=c44Dt c 4 ix at_
 unfold acD at q44 hm ⊢
 unfold Ch.d at q16 q40 ⊢
 refine plB Tryd.func21 Tryd.ntmps21 Tryd.results21 (fun S0 O0 w0 m0 hL hm0=>?_)
 repeat' first | refine s_ ?_ | refine c_ q16 ?_ | fail
 refine Z1 ?_
 repeat' first | refine s_ ?_ | fail
 refine Z1 ?_
 repeat' first | refine s_ ?_ | fail
 have hgd:(4 != 5 && decide (ix < 0) == false)=true:=by simp;omega
 refine Z38 ?_
 iterate 10 refine ov (hc:=?_)
 refine oStep (p:=.d (.agg [.int .i64 4,.bool false,.int .i64 ix,.int .i64 at_])) (by exact rfl) (by exact rfl) (by exact rfl) ?_ (fun rest _ hg=>gOn (by exact rfl) hgd rfl rfl rfl rfl rfl (oR rfl) (st (by exact rfl) (gOnEnd hg)))
 refine oStep (p:=.ref 0 8) (by exact rfl) (by exact rfl) (by exact rfl) ?_ (fun rest _ hg=>gOn (by exact rfl) hgd rfl rfl rfl rfl rfl (oR rfl) (cs [0] (by exact rfl) q44 (gOnEnd hg)))
 iterate 6 refine ov (hc:=?_)
 refine Z36 ?_
 refine cf (by exact rfl) ?_ (by rw [List.length_map];simp;omega)
 repeat' first | refine s_ ?_ | fail
 refine cn (by exact rfl) q40 (r':=.agg (ChA c p0 6 7 8 9 10 11)) (mem':=(chD c :: [.d (.int .i64 4),.d (.bool false),.d (.int .i64 ix),.d (.int .i64 at_)] :: zcel :: unk 10 :: unk 10 :: unk 5 :: ChR c p0)) ?_ rfl (by rw [List.map_append,ChR_rens];rfl)
 repeat' first | refine s_ ?_ | fail
 refine Z3 ?_
 refine (show GF _ _ _ _ ⟨_,ChA c p0 6 7 8 9 10 11 :: [.d (.int .i64 4),.d (.bool false),.d (.int .i64 ix),.d (.int .i64 at_)] :: zcel :: unk 10 :: unk 10 :: unk 5 :: (ChR c p0++[[.d .nilF,.d (.fn (.func 45) [] []),.d (.fn (.func 46) [] []),.d (.fn (.func 47) [] []),.d (.fn (.func 48) [] []),.d (.fn (.func 49) [] [])]])⟩ from ?_)
 refine tab5L 5 51 [(0,46,.ref 1 0),(1,47,.d (.int .i64 4)),(2,48,.ref 12 (0 + (4:Int).toNat * 1)),(3,49,.d (.fn (.func 48) [] [])),(4,50,.d (.agg [.int .i64 4,.bool false,.int .i64 ix,.int .i64 at_]))] [(6,8,.d (.int .i64 e))] [0,1,2,3,4,6] (by exact rfl) (by exact rfl) (fun rest=>rfl) hL hm p0_ok (fun a=>?_) (fun p' hp'=>?_)
 · refine ⟨?_,?_,?_,?_,?_,?_,trivial⟩
   iterate 2 exact ta_
   · exact tav (pre:=(47,.d (.int .i64 4)) :: [(2,.ref 0 0),(3,.ref 1 0),(4,.ref 2 0),(7,.ref 12 0)]) rfl rfl rfl rfl (by kernel_rfl) (fun _=>rfl) (fun rest ht=>by exact Q_arrAddr (b:=12) (o:=0) (m:=1) (k:=.i64) (i:=4) rfl rfl und91 (by kernel_rfl) (by decide) (by decide))
   · exact tav (pre:=(48,.ref 12 (0 + (4:Int).toNat * 1)) :: [(2,.ref 0 0),(3,.ref 1 0),(4,.ref 2 0),(7,.ref 12 0)]) rfl rfl rfl rfl (by kernel_rfl) (fun _=>rfl) (fun rest ht=>by exact Q_load_leaf (b:=12) (off:=0 + (4:Int).toNat * 1) (p:=.d (.fn (.func 48) [] [])) rfl rfl rfl und88 rfl rfl rfl ht)
   · exact ta_
   · exact tq3 (by exact rfl) (by exact rfl) rfl rfl (by exact fun _ _=>rfl)
 · refine s_ ?_
   refine Z5 ?_
   repeat' first | refine s_ ?_ | fail
   refine d_ (fun hb=>?_) (fun hb=>?_)
   · have he:¬ e=0:=by simpa using hb
     rw [if_neg he]
     repeat' first | refine s_ ?_ | fail
     exact e_
   · have he:e=0:=by simpa using hb
     subst he
     rw [if_pos rfl]
     refine Z11 ?_
     refine fg 12 (by exact rfl) ?_ rfl (by omega) (by show (PV.refsBs 12 (ChA c' p' 6 7 8 9 10 11) && (PV.refsBs 12 _ && (PV.refsBs 12 _ && (PV.refsBs 12 _ && (PV.refsBs 12 _ && (PV.refsBs 12 _ && (ChR c' p').all (PV.refsBs 12)))))))=true;rw [ChR_refs];rfl)
     refine (show GF _ _ _ _ ⟨_,ChA c' p' 6 7 8 9 10 11 :: [.d (.int .i64 4),.d (.bool false),.d (.int .i64 ix),.d (.int .i64 at_)] :: zcel :: unk 10 :: unk 10 :: unk 5 :: ChR c' p'⟩ from ?_)
     refine gChD5 hp' ?_ (by show m0.length≤6;omega)
     repeat' first | refine s_ ?_ | fail
     exact e_
set_option maxRecDepth 100000 in
theorem c21L_4b (c c':Ch) (ix at_ e:Int) (hc:c.Few) (hk:chkC c=false) (h0:0≤ix) (h1:ix < (c.bak.length:Int)) (hm:MtL 48 [.ref 0 0,.d (acD 4 true ix at_)] c (.d (.int .i64 e)) c'):PL 21 [c.d,acD 4 true ix at_] (.tup [.d (if e=0 then c' else zeroC).d,.d (.int .i64 e)]):=by
 have hc':=hc
 obtain ⟨g0,g1,g2,g3,g4,g5⟩:=hc'
 have q16:=c16 c (by omega) (by omega) (by omega) (by omega) (by omega) (by omega)
 rw [hk] at q16
 have q40:=c40 c hc
 have q44:=c44Db c 4 ix at_
 unfold acD at q44 hm ⊢
 unfold Ch.d at q16 q40 ⊢
 refine plB Tryd.func21 Tryd.ntmps21 Tryd.results21 (fun S0 O0 w0 m0 hL hm0=>?_)
 repeat' first | refine s_ ?_ | refine c_ q16 ?_ | fail
 refine Z1 ?_
 repeat' first | refine s_ ?_ | fail
 refine Z1 ?_
 repeat' first | refine s_ ?_ | fail
 have hgd:(4 != 5 && decide (ix < 0) == false)=true:=by simp;omega
 refine Z38 ?_
 iterate 10 refine ov (hc:=?_)
 refine oStep (p:=.d (.agg [.int .i64 4,.bool true,.int .i64 ix,.int .i64 at_])) (by exact rfl) (by exact rfl) (by exact rfl) ?_ (fun rest _ hg=>gOn (by exact rfl) hgd rfl rfl rfl rfl rfl (oR rfl) (st (by exact rfl) (gOnEnd hg)))
 refine oStep (p:=.ref 0 9) (by exact rfl) (by exact rfl) (by exact rfl) ?_ (fun rest _ hg=>gOn (by exact rfl) hgd rfl rfl rfl rfl rfl (oR rfl) (cs [0] (by exact rfl) q44 (gOnEnd hg)))
 iterate 6 refine ov (hc:=?_)
 refine Z36 ?_
 refine cf (by exact rfl) ?_ (by rw [List.length_map];simp;omega)
 repeat' first | refine s_ ?_ | fail
 refine cn (by exact rfl) q40 (r':=.agg (ChA c p0 6 7 8 9 10 11)) (mem':=(chD c :: [.d (.int .i64 4),.d (.bool true),.d (.int .i64 ix),.d (.int .i64 at_)] :: zcel :: unk 10 :: unk 10 :: unk 5 :: ChR c p0)) ?_ rfl (by rw [List.map_append,ChR_rens];rfl)
 repeat' first | refine s_ ?_ | fail
 refine Z3 ?_
 refine (show GF _ _ _ _ ⟨_,ChA c p0 6 7 8 9 10 11 :: [.d (.int .i64 4),.d (.bool true),.d (.int .i64 ix),.d (.int .i64 at_)] :: zcel :: unk 10 :: unk 10 :: unk 5 :: (ChR c p0++[[.d .nilF,.d (.fn (.func 45) [] []),.d (.fn (.func 46) [] []),.d (.fn (.func 47) [] []),.d (.fn (.func 48) [] []),.d (.fn (.func 49) [] [])]])⟩ from ?_)
 refine tab5L 5 51 [(0,46,.ref 1 0),(1,47,.d (.int .i64 4)),(2,48,.ref 12 (0 + (4:Int).toNat * 1)),(3,49,.d (.fn (.func 48) [] [])),(4,50,.d (.agg [.int .i64 4,.bool true,.int .i64 ix,.int .i64 at_]))] [(6,8,.d (.int .i64 e))] [0,1,2,3,4,6] (by exact rfl) (by exact rfl) (fun rest=>rfl) hL hm p0_ok (fun a=>?_) (fun p' hp'=>?_)
 · refine ⟨?_,?_,?_,?_,?_,?_,trivial⟩
   iterate 2 exact ta_
   · exact tav (pre:=(47,.d (.int .i64 4)) :: [(2,.ref 0 0),(3,.ref 1 0),(4,.ref 2 0),(7,.ref 12 0)]) rfl rfl rfl rfl (by kernel_rfl) (fun _=>rfl) (fun rest ht=>by exact Q_arrAddr (b:=12) (o:=0) (m:=1) (k:=.i64) (i:=4) rfl rfl und91 (by kernel_rfl) (by decide) (by decide))
   · exact tav (pre:=(48,.ref 12 (0 + (4:Int).toNat * 1)) :: [(2,.ref 0 0),(3,.ref 1 0),(4,.ref 2 0),(7,.ref 12 0)]) rfl rfl rfl rfl (by kernel_rfl) (fun _=>rfl) (fun rest ht=>by exact Q_load_leaf (b:=12) (off:=0 + (4:Int).toNat * 1) (p:=.d (.fn (.func 48) [] [])) rfl rfl rfl und88 rfl rfl rfl ht)
   · exact ta_
   · exact tq3 (by exact rfl) (by exact rfl) rfl rfl (by exact fun _ _=>rfl)
 · refine s_ ?_
   refine Z5 ?_
   repeat' first | refine s_ ?_ | fail
   refine d_ (fun hb=>?_) (fun hb=>?_)
   · have he:¬ e=0:=by simpa using hb
     rw [if_neg he]
     repeat' first | refine s_ ?_ | fail
     exact e_
   · have he:e=0:=by simpa using hb
     subst he
     rw [if_pos rfl]
     refine Z11 ?_
     refine fg 12 (by exact rfl) ?_ rfl (by omega) (by show (PV.refsBs 12 (ChA c' p' 6 7 8 9 10 11) && (PV.refsBs 12 _ && (PV.refsBs 12 _ && (PV.refsBs 12 _ && (PV.refsBs 12 _ && (PV.refsBs 12 _ && (ChR c' p').all (PV.refsBs 12)))))))=true;rw [ChR_refs];rfl)
     refine (show GF _ _ _ _ ⟨_,ChA c' p' 6 7 8 9 10 11 :: [.d (.int .i64 4),.d (.bool true),.d (.int .i64 ix),.d (.int .i64 at_)] :: zcel :: unk 10 :: unk 10 :: unk 5 :: ChR c' p'⟩ from ?_)
     refine gChD5 hp' ?_ (by show m0.length≤6;omega)
     repeat' first | refine s_ ?_ | fail
     exact e_
end
end Go.Proofs.YtoonleefemkalaaDoor
