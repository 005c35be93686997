import Derived.Test.YtoonleefemkalaaDoorM30
/- Contracts of functions. Conditions: none. -/
set_option linter.unusedSimpArgs false
set_option linter.unusedVariables false
set_option maxRecDepth 20000
namespace Go.Proofs.YtoonleefemkalaaDoor
open Go Go.Proofs.YtoonleefemkalaaDoor.E
section
theorem le200b {c:Ch} (h:chkC c=false):c.bak.length≤200:=by
 unfold chkC at h
 simp only [Bool.or_eq_false_iff] at h
 have h6:=h.2
 unfold chk5 at h6
 simp only [Bool.or_eq_false_iff,decide_eq_false_iff_not] at h6
 omega
theorem J4 {A:Prop} (h:A:=by simp only [List.set_cons_zero,List.set_cons_succ,nrefM,PV.nrefs,PV.nref,nrefs_flat,Bool.or_true,Bool.true_and,Bool.and_true]<;>rfl):A:=h
set_option maxRecDepth 100000 in
theorem c23_3b (c:Ch) (i:Nat) (at_:Int) {x:ByteArray} (hs:c.Sm) (hkf:chkC c=false) (hx:c.bak[i]? = some x):ActR c 3 true (i:Int) at_ (if c.bak.length=200 then (zeroC,5) else ({ c with bak:=c.bak++[x] },0)):=by
 have hi:i < c.bak.length:=(lG hx)
 have hr:=rt_of hs hkf
 have hrcv:=rcv_of hs hr
 have hxD:=sD_get hx
 have hc:=hs.few
 have hc':=hc
 obtain ⟨h0,h1,h2,h3,h4,h5⟩:=hc'
 have q17:=c17 c (by omega) (by omega) (by omega) (by omega) (by omega) (by omega)
 have q42:=c42 c hc
 rw [if_neg (by rw [hkf];decide)] at q17
 unfold ActR acD
 unfold Ch.d at q17 q42 ⊢
 refine pfb Tryd.func23 Tryd.ntmps23 Tryd.results23 (fun S0 O0 w0 m0 hm0=>?_)
 iterate 4 refine s_ ?_
 refine Z8 ?_
 repeat' first | refine s_ ?_ | refine c_ q17 ?_ | fail
 have h200:=le200b hkf
 refine Z1 ?_
 repeat' first | refine s_ ?_ | fail
 refine Z1 ?_
 repeat' first | refine s_ ?_ | fail
 refine cn (by exact rfl) q42 (r':=.agg (ChA c p0 4 5 7 8 9 6)) (mem':=(chD c :: zcel :: unk 10 :: unk 10 :: ChRr c p0)) ?_ rfl ?_
 rotate_left
 · rw [List.map_append,ChRr_rens];rfl
 repeat' first | refine s_ ?_ | fail
 refine kp [(2,.ref 0 0),(3,.d (.ptr (.agg [.int .i64 3,.bool true,.int .i64 (i:Int),.int .i64 at_]))),(4,.ref 1 0),(5,.d (.int .i64 0)),(29,.d (.bool false))] ⟨rfl,rfl,rfl,rfl,rfl,trivial⟩ ?_
 refine Z0 ?_
 refine gK_b (row_k (by simp) (sD_k _) (by simp)) (row_k (by simp) (sD_k _) (by simp)) (row_k (by simp) (pD_k _) (by simp)) (row_k (by simp) (sD_k _) (by simp)) (row_k (by simp) (sD_k _) (by simp)) hm0 ?_
 refine Z1 ?_
 repeat' first | refine s_ ?_ | fail
 refine Z16 ?_
 repeat' first | refine s_ ?_ | fail
 refine cf (by exact rfl) ?_ (by rw [sD_len];simp;omega)
 repeat' first | refine s_ ?_ | fail
 refine gq (p:=.ref 9 (rlo 1 [] (sD c.bak) [] + ((i:Int)).toNat * 1)) (by exact rfl) (fun _ ht=>by exact Q_rowIndex (n:=(sD c.bak).length) rfl rfl (by omega) (by rw [sD_len];exact_mod_cast hi) u35 sz9 ht) ?_
 refine gq (p:=.d (.str x)) (by exact rfl) (fun _ ht=>by exact Q_rowLeaf (pre:=[]) (xs:=sD c.bak) (post:=[]) (i:=i) (f:=0) (k:=1) rfl rfl (by rw [rlo_ne (sD_ne hi)];rfl) hxD rfl (row_k (by simp) (sD_k _) (by simp)) u9 rfl rfl ht) ?_
 repeat' first | refine s_ ?_ | fail
 refine Z1 ?_
 repeat' first | refine s_ ?_ | fail
 refine Z1 ?_
 repeat' first | refine s_ ?_ | fail
 refine Z16 ?_
 repeat' first | refine s_ ?_ | fail
 refine d_ (fun hb=>?_) (fun hb=>?_)
 · have hl:c.bak.length=200:=by have:=oR hb;rw [sD_len] at this;omega
   simp only [hl,if_true]
   repeat' first | refine s_ ?_ | fail
   exact e_
 have hl:¬ c.bak.length=200:=by have:=of_decide_eq_false hb;rw [sD_len] at this;omega
 simp only [hl,if_false]
 repeat' first | refine s_ ?_ | refine bs (by exact rfl) ?_ | fail
 refine gCell 0 9 rfl rfl ?_ rfl rfl
 refine gApG (pre:=[]) (xs:=sD c.bak) (post:=[]) (ys:=[.str x]) rfl rfl rfl rfl rfl (by rw [hm0];exact Nat.zero_le _) (by exact J4) rfl (by simp) (row_k (by simp) (sD_k _) (by simp)) (by simp [D.cells]) (by decide) u35 inf9 rfl (by simp [Value.cells,Value.oneCell']) (by rw [sD_len];unfold lim;simp;omega) (by rw [sD_len];unfold lim;simp;omega) (Nat.le_of_ble_eq_true rfl) (fun a b hab=>?_)
 rw [← List.length_append,sD_snoc]
 rw [sD_snoc] at hab
 repeat' first | refine s_ ?_ | fail
 refine Z16 ?_
 repeat' first | refine s_ ?_ | fail
 refine kp [(2,.ref 0 0),(3,.d (.ptr (.agg [.int .i64 3,.bool true,.int .i64 (i:Int),.int .i64 at_]))),(4,.ref 1 0),(126,.d (.bool false))] ⟨rfl,rfl,rfl,rfl,trivial⟩ ?_
 refine gE_b (c:={ c with bak:=c.bak++[x] }) hab hm0 ?_
 refine Z1 ?_
 repeat' first | refine s_ ?_ | fail
 refine Z1 ?_
 repeat' first | refine s_ ?_ | fail
 exact e_
set_option maxRecDepth 100000 in
theorem c23_4b (c:Ch) (i:Nat) (at_:Int) {x:ByteArray} (hs:c.Sm) (hkf:chkC c=false) (hx:c.bak[i]? = some x):ActR c 4 true (i:Int) at_ (if at_ < 0∨at_ ≥ (x.size:Int) then (zeroC,4) else ({ c with bak:=c.bak.set i (x.extract 0 at_.toNat) },0)):=by
 have hi:i < c.bak.length:=(lG hx)
 have hr:=rt_of hs hkf
 have hrcv:=rcv_of hs hr
 have hxD:=sD_get hx
 have hc:=hs.few
 have hc':=hc
 obtain ⟨h0,h1,h2,h3,h4,h5⟩:=hc'
 have q17:=c17 c (by omega) (by omega) (by omega) (by omega) (by omega) (by omega)
 have q42:=c42 c hc
 rw [if_neg (by rw [hkf];decide)] at q17
 unfold ActR acD
 unfold Ch.d at q17 q42 ⊢
 refine pfb Tryd.func23 Tryd.ntmps23 Tryd.results23 (fun S0 O0 w0 m0 hm0=>?_)
 iterate 4 refine s_ ?_
 refine Z8 ?_
 repeat' first | refine s_ ?_ | refine c_ q17 ?_ | fail
 refine Z1 ?_
 repeat' first | refine s_ ?_ | fail
 refine Z1 ?_
 repeat' first | refine s_ ?_ | fail
 refine cn (by exact rfl) q42 (r':=.agg (ChA c p0 4 5 7 8 9 6)) (mem':=(chD c :: zcel :: unk 10 :: unk 10 :: ChRr c p0)) ?_ rfl ?_
 rotate_left
 · rw [List.map_append,ChRr_rens];rfl
 repeat' first | refine s_ ?_ | fail
 refine kp [(2,.ref 0 0),(3,.d (.ptr (.agg [.int .i64 4,.bool true,.int .i64 (i:Int),.int .i64 at_]))),(4,.ref 1 0),(5,.d (.int .i64 0)),(29,.d (.bool false))] ⟨rfl,rfl,rfl,rfl,rfl,trivial⟩ ?_
 refine Z0 ?_
 refine gK_b (row_k (by simp) (sD_k _) (by simp)) (row_k (by simp) (sD_k _) (by simp)) (row_k (by simp) (pD_k _) (by simp)) (row_k (by simp) (sD_k _) (by simp)) (row_k (by simp) (sD_k _) (by simp)) hm0 ?_
 refine Z1 ?_
 repeat' first | refine s_ ?_ | fail
 refine Z16 ?_
 repeat' first | refine s_ ?_ | fail
 refine cf (by exact rfl) ?_ (by rw [sD_len];simp;omega)
 repeat' first | refine s_ ?_ | fail
 refine gq (p:=.ref 9 (rlo 1 [] (sD c.bak) [] + ((i:Int)).toNat * 1)) (by exact rfl) (fun _ ht=>by exact Q_rowIndex (n:=(sD c.bak).length) rfl rfl (by omega) (by rw [sD_len];exact_mod_cast hi) u35 sz9 ht) ?_
 refine gq (p:=.d (.str x)) (by exact rfl) (fun _ ht=>by exact Q_rowLeaf (pre:=[]) (xs:=sD c.bak) (post:=[]) (i:=i) (f:=0) (k:=1) rfl rfl (by rw [rlo_ne (sD_ne hi)];rfl) hxD rfl (row_k (by simp) (sD_k _) (by simp)) u9 rfl rfl ht) ?_
 repeat' first | refine s_ ?_ | fail
 refine Z1 ?_
 repeat' first | refine s_ ?_ | fail
 refine Z1 ?_
 repeat' first | refine s_ ?_ | fail
 refine Z1 ?_
 repeat' first | refine s_ ?_ | fail
 refine Z16 ?_
 repeat' first | refine s_ ?_ | fail
 refine d_ (fun hb=>?_) (fun hb=>?_)
 · have h:at_ < 0∨at_ ≥ (x.size:Int):=by simpa using hb
   simp only [h,if_true]
   repeat' first | refine s_ ?_ | fail
   exact e_
 have h:¬ (at_ < 0∨at_ ≥ (x.size:Int)):=by simpa using hb
 simp only [h,if_false]
 repeat' first | refine s_ ?_ | fail
 refine kp [(2,.ref 0 0),(3,.d (.ptr (.agg [.int .i64 4,.bool true,.int .i64 (i:Int),.int .i64 at_]))),(4,.ref 1 0),(8,rowV 9 1 [] (sD c.bak) []),(9,.d (.str x))] ⟨rfl,rfl,rfl,rfl,rfl,trivial⟩ ?_
 refine (show GF _ _ _ _ ⟨_,[[.d (.int .i64 c.win),.d (.int .i64 c.base),.d (.int .i64 c.nxt),.d (.sl (sD c.una)),.d (.sl (sD c.wai)),.d (.int .i64 c.exp),.d (.sl (pD c.ear)),.d (.sl (sD c.del)),.d (.sl (sD c.tos)),rowV 9 1 [] (sD c.bak) []],zcel,unk 10,unk 10,[],[],[],[],[],flat ([]++sD c.bak++[])]⟩ from ?_)
 refine ow [8] [[[.d (.int .i64 c.win),.d (.int .i64 c.base),.d (.int .i64 c.nxt),.d (.sl (sD c.una)),.d (.sl (sD c.wai)),.d (.int .i64 c.exp),.d (.sl (pD c.ear)),.d (.sl (sD c.del)),.d (.sl (sD c.tos)),rowV 9 1 [] (sD c.bak) []],zcel,unk 10,unk 10,[],[],[],[],[],flat ([]++sD c.bak++[])],([[.d (.int .i64 c.win),.d (.int .i64 c.base),.d (.int .i64 c.nxt),.d (.sl (sD c.una)),.d (.sl (sD c.wai)),.d (.int .i64 c.exp),.d (.sl (pD c.ear)),.d (.sl (sD c.del)),.d (.sl (sD c.tos)),rowV 9 1 [] (sD c.bak) []],zcel,unk 10,unk 10,[],[],[],[],[],flat ([]++sD c.bak++[])]).set 9 (flat ([]++(sD c.bak).set i (.str (x.extract 0 at_.toNat))++[]))] (hc:=?_)
 iterate 6 refine aw (hc:=?_)
 refine bw (hcc:=?_) (hc:=?_)
 · omega
 refine qw 0 (p:=.ref 9 (rlo 1 [] (sD c.bak) [] + ((i:Int)).toNat * 1)) (hmm:=rfl) (hs:=rfl) (hj:=rfl) (h:=fun _=>rfl) (hq:=fun rest _ ht=>by exact Q_rowIndex (n:=(sD c.bak).length) rfl rfl (by omega) (by rw [sD_len];exact_mod_cast hi) u35 sz9 ht) (hc:=?_)
 refine dw 0 (hm1:=rfl) (hm2:=rfl) (hs:=rfl) (hj:=rfl) (hop:=rfl) (hy:=fun rest=>D_rowSet (pre:=[]) (xs:=sD c.bak) (post:=[]) (i:=i) (k:=1) rfl rfl (by rw [rlo_ne (sD_ne hi)];rfl) (by rw [sD_len];exact hi) (row_k (by simp) (sD_k _) (by simp)) (by decide) rfl rfl sz9) (hc:=?_)
 refine Z25 ?_
 rw [sD_set]
 rw [show rowV 9 1 [] (sD c.bak) []=rowV 9 1 [] (sD (c.bak.set i (x.extract 0 at_.toNat))) [] from (rowV_set 9 [] [] (x.extract 0 at_.toNat) hi).symm]
 repeat' first | refine s_ ?_ | fail
 refine Z16 ?_
 repeat' first | refine s_ ?_ | fail
 refine kp [(2,.ref 0 0),(3,.d (.ptr (.agg [.int .i64 4,.bool true,.int .i64 (i:Int),.int .i64 at_]))),(4,.ref 1 0),(126,.d (.bool false))] ⟨rfl,rfl,rfl,rfl,trivial⟩ ?_
 refine gE_b (c:={ c with bak:=c.bak.set i (x.extract 0 at_.toNat) }) (row_k (by simp) (sD_k _) (by simp)) hm0 ?_
 refine Z1 ?_
 repeat' first | refine s_ ?_ | fail
 refine Z1 ?_
 repeat' first | refine s_ ?_ | fail
 exact e_
theorem le200t {c:Ch} (h:chkC c=false):c.tos.length≤200:=by
 unfold chkC at h
 simp only [Bool.or_eq_false_iff] at h
 have h6:=h.2
 unfold chk5 at h6
 simp only [Bool.or_eq_false_iff,decide_eq_false_iff_not] at h6
 omega
set_option maxRecDepth 100000 in
theorem c23_3t (c:Ch) (i:Nat) (at_:Int) {x:ByteArray} (hs:c.Sm) (hkf:chkC c=false) (hx:c.tos[i]? = some x):ActR c 3 false (i:Int) at_ (if c.tos.length=200 then (zeroC,5) else ({ c with tos:=c.tos++[x] },0)):=by
 have hi:i < c.tos.length:=(lG hx)
 have hr:=rt_of hs hkf
 have hrcv:=rcv_of hs hr
 have hxD:=sD_get hx
 have hc:=hs.few
 have hc':=hc
 obtain ⟨h0,h1,h2,h3,h4,h5⟩:=hc'
 have q17:=c17 c (by omega) (by omega) (by omega) (by omega) (by omega) (by omega)
 have q42:=c42 c hc
 rw [if_neg (by rw [hkf];decide)] at q17
 unfold ActR acD
 unfold Ch.d at q17 q42 ⊢
 refine pfb Tryd.func23 Tryd.ntmps23 Tryd.results23 (fun S0 O0 w0 m0 hm0=>?_)
 iterate 4 refine s_ ?_
 refine Z8 ?_
 repeat' first | refine s_ ?_ | refine c_ q17 ?_ | fail
 have h200:=le200t hkf
 refine Z1 ?_
 repeat' first | refine s_ ?_ | fail
 refine Z1 ?_
 repeat' first | refine s_ ?_ | fail
 refine cn (by exact rfl) q42 (r':=.agg (ChA c p0 4 5 7 8 9 6)) (mem':=(chD c :: zcel :: unk 10 :: unk 10 :: ChRr c p0)) ?_ rfl ?_
 rotate_left
 · rw [List.map_append,ChRr_rens];rfl
 repeat' first | refine s_ ?_ | fail
 refine kp [(2,.ref 0 0),(3,.d (.ptr (.agg [.int .i64 3,.bool false,.int .i64 (i:Int),.int .i64 at_]))),(4,.ref 1 0),(5,.d (.int .i64 0)),(29,.d (.bool false))] ⟨rfl,rfl,rfl,rfl,rfl,trivial⟩ ?_
 refine Z0 ?_;refine Z13 ?_;refine Z1 ?_
 repeat' first | refine s_ ?_ | fail
 refine Z1 ?_
 repeat' first | refine s_ ?_ | fail
 refine cf (by exact rfl) ?_ (by rw [sD_len];simp;omega)
 repeat' first | refine s_ ?_ | fail
 refine gq (p:=.ref 8 (rlo 1 [] (sD c.tos) [] + ((i:Int)).toNat * 1)) (by exact rfl) (fun _ ht=>by exact Q_rowIndex (n:=(sD c.tos).length) rfl rfl (by omega) (by rw [sD_len];exact_mod_cast hi) u35 sz9 ht) ?_
 refine gq (p:=.d (.str x)) (by exact rfl) (fun _ ht=>by exact Q_rowLeaf (pre:=[]) (xs:=sD c.tos) (post:=[]) (i:=i) (f:=0) (k:=1) rfl rfl (by rw [rlo_ne (sD_ne hi)];rfl) hxD rfl (row_k (by simp) (sD_k _) (by simp)) u9 rfl rfl ht) ?_
 repeat' first | refine s_ ?_ | fail
 refine Z1 ?_
 repeat' first | refine s_ ?_ | fail
 refine Z1 ?_
 repeat' first | refine s_ ?_ | fail
 refine Z16 ?_
 repeat' first | refine s_ ?_ | fail
 refine d_ (fun hb=>?_) (fun hb=>?_)
 · have hl:c.tos.length=200:=by have:=oR hb;rw [sD_len] at this;omega
   simp only [hl,if_true]
   repeat' first | refine s_ ?_ | fail
   exact e_
 have hl:¬ c.tos.length=200:=by have:=of_decide_eq_false hb;rw [sD_len] at this;omega
 simp only [hl,if_false]
 repeat' first | refine s_ ?_ | refine bs (by exact rfl) ?_ | fail
 refine gCell 0 8 rfl rfl ?_ rfl rfl
 refine gApG (pre:=[]) (xs:=sD c.tos) (post:=[]) (ys:=[.str x]) rfl rfl rfl rfl rfl (by rw [hm0];exact Nat.zero_le _) (by exact J4) rfl (by simp) (row_k (by simp) (sD_k _) (by simp)) (by simp [D.cells]) (by decide) u35 inf9 rfl (by simp [Value.cells,Value.oneCell']) (by rw [sD_len];unfold lim;simp;omega) (by rw [sD_len];unfold lim;simp;omega) (Nat.le_of_ble_eq_true rfl) (fun a b hab=>?_)
 rw [← List.length_append,sD_snoc]
 rw [sD_snoc] at hab
 repeat' first | refine s_ ?_ | fail
 refine Z1 ?_
 repeat' first | refine s_ ?_ | fail
 refine kp [(2,.ref 0 0),(3,.d (.ptr (.agg [.int .i64 3,.bool false,.int .i64 (i:Int),.int .i64 at_]))),(4,.ref 1 0),(126,.d (.bool false))] ⟨rfl,rfl,rfl,rfl,trivial⟩ ?_
 refine gE_t (c:={ c with tos:=c.tos++[x] }) hab hm0 ?_
 refine Z1 ?_
 repeat' first | refine s_ ?_ | fail
 refine Z1 ?_
 repeat' first | refine s_ ?_ | fail
 exact e_
set_option maxRecDepth 100000 in
theorem c23_4t (c:Ch) (i:Nat) (at_:Int) {x:ByteArray} (hs:c.Sm) (hkf:chkC c=false) (hx:c.tos[i]? = some x):ActR c 4 false (i:Int) at_ (if at_ < 0∨at_ ≥ (x.size:Int) then (zeroC,4) else ({ c with tos:=c.tos.set i (x.extract 0 at_.toNat) },0)):=by
 have hi:i < c.tos.length:=(lG hx)
 have hr:=rt_of hs hkf
 have hrcv:=rcv_of hs hr
 have hxD:=sD_get hx
 have hc:=hs.few
 have hc':=hc
 obtain ⟨h0,h1,h2,h3,h4,h5⟩:=hc'
 have q17:=c17 c (by omega) (by omega) (by omega) (by omega) (by omega) (by omega)
 have q42:=c42 c hc
 rw [if_neg (by rw [hkf];decide)] at q17
 unfold ActR acD
 unfold Ch.d at q17 q42 ⊢
 refine pfb Tryd.func23 Tryd.ntmps23 Tryd.results23 (fun S0 O0 w0 m0 hm0=>?_)
 iterate 4 refine s_ ?_
 refine Z8 ?_
 repeat' first | refine s_ ?_ | refine c_ q17 ?_ | fail
 refine Z1 ?_
 repeat' first | refine s_ ?_ | fail
 refine Z1 ?_
 repeat' first | refine s_ ?_ | fail
 refine cn (by exact rfl) q42 (r':=.agg (ChA c p0 4 5 7 8 9 6)) (mem':=(chD c :: zcel :: unk 10 :: unk 10 :: ChRr c p0)) ?_ rfl ?_
 rotate_left
 · rw [List.map_append,ChRr_rens];rfl
 repeat' first | refine s_ ?_ | fail
 refine kp [(2,.ref 0 0),(3,.d (.ptr (.agg [.int .i64 4,.bool false,.int .i64 (i:Int),.int .i64 at_]))),(4,.ref 1 0),(5,.d (.int .i64 0)),(29,.d (.bool false))] ⟨rfl,rfl,rfl,rfl,rfl,trivial⟩ ?_
 refine Z0 ?_;refine Z13 ?_;refine Z1 ?_
 repeat' first | refine s_ ?_ | fail
 refine Z1 ?_
 repeat' first | refine s_ ?_ | fail
 refine cf (by exact rfl) ?_ (by rw [sD_len];simp;omega)
 repeat' first | refine s_ ?_ | fail
 refine gq (p:=.ref 8 (rlo 1 [] (sD c.tos) [] + ((i:Int)).toNat * 1)) (by exact rfl) (fun _ ht=>by exact Q_rowIndex (n:=(sD c.tos).length) rfl rfl (by omega) (by rw [sD_len];exact_mod_cast hi) u35 sz9 ht) ?_
 refine gq (p:=.d (.str x)) (by exact rfl) (fun _ ht=>by exact Q_rowLeaf (pre:=[]) (xs:=sD c.tos) (post:=[]) (i:=i) (f:=0) (k:=1) rfl rfl (by rw [rlo_ne (sD_ne hi)];rfl) hxD rfl (row_k (by simp) (sD_k _) (by simp)) u9 rfl rfl ht) ?_
 repeat' first | refine s_ ?_ | fail
 refine Z1 ?_
 repeat' first | refine s_ ?_ | fail
 refine Z1 ?_
 repeat' first | refine s_ ?_ | fail
 refine Z1 ?_
 repeat' first | refine s_ ?_ | fail
 refine Z16 ?_
 repeat' first | refine s_ ?_ | fail
 refine d_ (fun hb=>?_) (fun hb=>?_)
 · have h:at_ < 0∨at_ ≥ (x.size:Int):=by simpa using hb
   simp only [h,if_true]
   repeat' first | refine s_ ?_ | fail
   exact e_
 have h:¬ (at_ < 0∨at_ ≥ (x.size:Int)):=by simpa using hb
 simp only [h,if_false]
 repeat' first | refine s_ ?_ | fail
 refine kp [(2,.ref 0 0),(3,.d (.ptr (.agg [.int .i64 4,.bool false,.int .i64 (i:Int),.int .i64 at_]))),(4,.ref 1 0),(8,rowV 8 1 [] (sD c.tos) []),(9,.d (.str x))] ⟨rfl,rfl,rfl,rfl,rfl,trivial⟩ ?_
 refine (show GF _ _ _ _ ⟨_,[[.d (.int .i64 c.win),.d (.int .i64 c.base),.d (.int .i64 c.nxt),.d (.sl (sD c.una)),.d (.sl (sD c.wai)),.d (.int .i64 c.exp),.d (.sl (pD c.ear)),.d (.sl (sD c.del)),rowV 8 1 [] (sD c.tos) [],.d (.sl (sD c.bak))],zcel,unk 10,unk 10,[],[],[],[],flat ([]++sD c.tos++[])]⟩ from ?_)
 refine ow [8] [[[.d (.int .i64 c.win),.d (.int .i64 c.base),.d (.int .i64 c.nxt),.d (.sl (sD c.una)),.d (.sl (sD c.wai)),.d (.int .i64 c.exp),.d (.sl (pD c.ear)),.d (.sl (sD c.del)),rowV 8 1 [] (sD c.tos) [],.d (.sl (sD c.bak))],zcel,unk 10,unk 10,[],[],[],[],flat ([]++sD c.tos++[])],([[.d (.int .i64 c.win),.d (.int .i64 c.base),.d (.int .i64 c.nxt),.d (.sl (sD c.una)),.d (.sl (sD c.wai)),.d (.int .i64 c.exp),.d (.sl (pD c.ear)),.d (.sl (sD c.del)),rowV 8 1 [] (sD c.tos) [],.d (.sl (sD c.bak))],zcel,unk 10,unk 10,[],[],[],[],flat ([]++sD c.tos++[])]).set 8 (flat ([]++(sD c.tos).set i (.str (x.extract 0 at_.toNat))++[]))] (hc:=?_)
 iterate 6 refine aw (hc:=?_)
 refine bw (hcc:=?_) (hc:=?_)
 · omega
 refine qw 0 (p:=.ref 8 (rlo 1 [] (sD c.tos) [] + ((i:Int)).toNat * 1)) (hmm:=rfl) (hs:=rfl) (hj:=rfl) (h:=fun _=>rfl) (hq:=fun rest _ ht=>by exact Q_rowIndex (n:=(sD c.tos).length) rfl rfl (by omega) (by rw [sD_len];exact_mod_cast hi) u35 sz9 ht) (hc:=?_)
 refine dw 0 (hm1:=rfl) (hm2:=rfl) (hs:=rfl) (hj:=rfl) (hop:=rfl) (hy:=fun rest=>D_rowSet (pre:=[]) (xs:=sD c.tos) (post:=[]) (i:=i) (k:=1) rfl rfl (by rw [rlo_ne (sD_ne hi)];rfl) (by rw [sD_len];exact hi) (row_k (by simp) (sD_k _) (by simp)) (by decide) rfl rfl sz9) (hc:=?_)
 refine Z25 ?_
 rw [sD_set]
 rw [show rowV 8 1 [] (sD c.tos) []=rowV 8 1 [] (sD (c.tos.set i (x.extract 0 at_.toNat))) [] from (rowV_set 8 [] [] (x.extract 0 at_.toNat) hi).symm]
 repeat' first | refine s_ ?_ | fail
 refine Z1 ?_
 repeat' first | refine s_ ?_ | fail
 refine kp [(2,.ref 0 0),(3,.d (.ptr (.agg [.int .i64 4,.bool false,.int .i64 (i:Int),.int .i64 at_]))),(4,.ref 1 0),(126,.d (.bool false))] ⟨rfl,rfl,rfl,rfl,trivial⟩ ?_
 refine gE_t (c:={ c with tos:=c.tos.set i (x.extract 0 at_.toNat) }) (row_k (by simp) (sD_k _) (by simp)) hm0 ?_
 refine Z1 ?_
 repeat' first | refine s_ ?_ | fail
 refine Z1 ?_
 repeat' first | refine s_ ?_ | fail
 exact e_
end
section
theorem c23 (c:Ch) (k:Int) (b:Bool) (ix at_:Int) (hs:c.Sm):ActR c k b ix at_ (actS c k b ix at_):=by
 unfold actS
 cases hk:chkC c with
 | true=>rw [if_pos rfl];exact c23e1 c k b ix at_ hs hk
 | false=>
  rw [if_neg (by decide)]
  by_cases h15:k < 1∨5 < k
  · rw [if_pos h15];exact c23e2 c k b ix at_ hs hk h15
  rw [if_neg h15]
  by_cases h5:k=5
  · rw [if_pos h5]
    subst h5
    exact c23_5 c b ix at_ hs hk
  rw [if_neg h5]
  by_cases hix:ix < 0∨((flt c b).length:Int)≤ix
  · rw [if_pos hix]
    cases b with
    | true=>exact c23e3t c k ix at_ hs hk (by omega) (by omega) hix
    | false=>exact c23e3f c k ix at_ hs hk (by omega) (by omega) hix
  rw [if_neg hix]
  obtain ⟨i,rfl⟩:∃ i:Nat,ix=(i:Int):=⟨ix.toNat,by omega⟩
  rw [Int.toNat_natCast]
  have hif:i < (flt c b).length:=by omega
  obtain ⟨x,hx⟩:∃ x,(flt c b)[i]? = some x:=⟨_,gE hif⟩
  rw [List.getD_eq_getElem?_getD,hx,Option.getD_some]
  have hk4:k=1∨k=2∨k=3∨k=4:=by omega
  unfold actK
  cases b with
  | true=>
   have hx':c.bak[i]? = some x:=hx
   rcases hk4 with rfl | rfl | rfl | rfl
   · exact c23_1b c i at_ hs hk hx'
   · exact c23_2b c i at_ hs hk hx'
   · exact c23_3b c i at_ hs hk hx'
   · exact c23_4b c i at_ hs hk hx'
  | false=>
   have hx':c.tos[i]? = some x:=hx
   rcases hk4 with rfl | rfl | rfl | rfl
   · exact c23_1t c i at_ hs hk hx'
   · exact c23_2t c i at_ hs hk hx'
   · exact c23_3t c i at_ hs hk hx'
   · exact c23_4t c i at_ hs hk hx'
open Go.RowKit in
theorem PL.row {f:FuncId} {ds:List D} {b:Bool} (h:PL f ds (.d (.bool b))) (W:World) (hW:Lad (E.allOf W) W) (vals:Array Value) (hsz:vals.size=ds.length)
 (hr:∀ (i:Nat) d v,ds[i]? = some d→vals[i]? = some v→Rd W (E.allOf W) d v):
 Calls Tryd.prog f vals W fun e w'=>e=.returned (.bool b)∧Below W.heap.size W w':=by
 refine (h.2 (E.allOf W) W hW W (E.allOf W) noOwns [] vals (Ext.refl _ _) (fun _ _ h=>h) (Env.start W) (by simpa using hsz) ?_).mono ?_
 · intro i p v hi hv
   rw [List.getElem?_map] at hi
   cases hd:ds[i]? with
   | none=>rw [hd] at hi;cases hi
   | some d=>
    rw [hd] at hi
    cases hi
    exact .d _ d v (hr i d v hd hv)
 · rintro e w' ⟨v,r,mem',S',O',m',rfl,⟨rfl,rfl⟩,henv,_,_,hrp⟩
   refine ⟨?_,henv.below⟩
   cases hrp with
   | d _ _ _ hd=>rw [rd_bool hd]
theorem zcl {n:Nat} {S0:Reg} {O0:Owns} {w0:World} {m0 Bs:List Nat} {ds:List Deferred} {fr:List Fr} {Q:Exit→GS→Prop} {kl:List (Nat×Nat)} {ops:Array Oper} {base pre:List (Nat×PV)} {ws:List Nat} {ms:List (List (List PV))} {i j t:Nat} {es es':List (Nat×Nat×PV)} {f:FuncId} {args:List D} {dl:List D} (hL:Lad S0 w0) (hs:seeF kl ops.toList i es base=some pre) (hj:nth nums (i + 1)=some j) (h:∀ rest,cms ops.toList n i (pre++rest)=some (t,f,args.map .d)) (hcl:PL f args (.tup (dl.map .d))) (hes:snocK es (i,t,.tup (dl.map .d)) some=some es') (hc:COz kl ⟨Tryd.prog,n,S0,O0,w0,m0,Bs,ds⟩ fr ops base ws ms j es' Q) (hargs:args.map PV.d=PV.rens (fun b=>([]:List Nat).getD b 0) (args.map PV.d):=by rfl) (hra:PV.refsBs 0 (args.map PV.d)=true:=by rfl) (hr:∀ g:Nat→Nat,(PV.tup (dl.map .d)).ren g=.tup (dl.map .d):=by intro g;rfl) (hi:memN i ws=false:=by rfl):COz kl ⟨Tryd.prog,n,S0,O0,w0,m0,Bs,ds⟩ fr ops base ws ms i es Q:=zAny hs hj hes hi hc fun rest X _ hg=>clL hL (h rest) hcl hg hargs hra (hr _)
theorem fillN_few:∀ (n:Nat) (c:Ch),c.Few→c.una.length + c.wai.length≤900000→(fillN n c).Few
 | 0,_,h,_=>h
 | n + 1,c,h,hl=>by
  unfold fillN
  cases hw:c.wai with
  | nil=>exact h
  | cons m r=>
   show (if _ then _ else _:Ch).Few
   split
   · have hwl:c.wai.length=r.length + 1:=by rw [hw];rfl
     have h1:=nextC_few h m (by omega)
     have hu:(nextC c m).una.length=c.una.length + 1:=by
      rw [nextC_eq];show (c.una++[m]).length=_;rw [List.length_append];rfl
     exact fillN_few n _ { h1 with wai:=by show r.length≤_;omega } (by show (nextC c m).una.length + r.length≤_;omega)
   · exact h
theorem dueN_few:∀ (n:Nat) (c:Ch),c.Few→c.del.length + c.ear.length≤900000→(dueN n c).Few
 | 0,_,h,_=>h
 | n + 1,c,h,hl=>by
  unfold dueN
  cases hw:c.ear with
  | nil=>exact h
  | cons q r=>
   show (if _ then _ else _:Ch).Few
   split
   · have hwl:c.ear.length=r.length + 1:=by rw [hw];rfl
     exact dueN_few n _ (delC_few (c:={ c with ear:=r }) { h with ear:=by show r.length≤_;have:=h.ear;omega } q (by show c.del.length < _;omega)) (by show (c.del++[q.bo]).length + r.length≤_;rw [List.length_append];simp;omega)
   · exact h
variable {c:Ch}
theorem sendB_few (h:c.Few) (q:Pk):(sendB c q).Few:=by
 unfold sendB
 split
 · rename_i hl
   exact { h with bak:=by show (c.bak++[enC q]).length≤_;rw [List.length_append];simp;omega }
 · exact h
theorem ackC_few (h:c.Few) (hl:c.una.length + c.wai.length≤900000) (s:ByteArray):(ackC c s).Few:=by
 unfold ackC
 split
 · exact h
 · exact fillN_few _ _ { h with una:=by show (c.una.drop _).length≤_;rw [List.length_drop];have:=h.una;omega } (by show (c.una.drop _).length + c.wai.length≤_;rw [List.length_drop];omega)
theorem insK_len2 (l:List Pk) (i:Nat) (q:Pk):(insK l i q).length≤l.length + 1:=by
 unfold insK
 simp only [List.length_append,List.length_cons,List.length_take,List.length_drop];omega
theorem rcvC_few (h:c.Few) (hl:c.del.length + c.ear.length≤800000) (s:ByteArray):(rcvC c s).Few:=by
 unfold rcvC
 split
 · refine sendB_few ?_ _
   unfold rcvD
   split
   · exact h
   · split
     · exact dueN_few _ _ (delC_few h _ (by omega)) (by show (c.del++[_]).length + c.ear.length≤_;rw [List.length_append];simp;omega)
     · split
       · split
         · exact h
         · exact { h with ear:=by show (insK c.ear _ _).length≤_;have:=insK_len2 c.ear (ixE (deP s).nu c.ear) (deP s);omega }
       · exact h
 · exact h
theorem pushT_len (l:List ByteArray) (q:Pk) {n:Nat} (h1:200≤n) (h:l.length≤n):(pushT l q).length≤n:=by
 unfold pushT
 split
 · rw [List.length_append];simp;omega
 · exact h
theorem tickL_len (base:Int) {n:Nat} (h1:200≤n):∀ (l:List ByteArray) (z:Nat) (T:List ByteArray),T.length≤n→(tickL base z l T).length≤n
 | [],_,_,h=>h
 | m :: r,z,T,h=>tickL_len base h1 r (z + 1) _ (pushT_len T _ h1 h)
theorem actS_few (hs:c.Sm) (k:Int) (b:Bool) (ix at_:Int):(actS c k b ix at_).1.Few:=by
 have hz:zeroC.Few:=⟨Nat.zero_le _,Nat.zero_le _,Nat.zero_le _,Nat.zero_le _,Nat.zero_le _,Nat.zero_le _⟩
 have hc:=hs.few
 have g1:=hs.una;have g2:=hs.wai;have g3:=hs.ear;have g4:=hs.del;have g5:=hs.tos;have g6:=hs.bak
 have hel:∀ (l:List ByteArray) (i:Nat),l.length≤20000→(l.eraseIdx i).length≤1000000:=fun l i h=>by rw [List.length_eraseIdx];split<;>omega
 unfold actS
 split
 · exact hz
 split
 · exact hz
 split
 · exact { hc with tos:=tickL_len c.base (by omega) _ _ _ hc.tos }
 split
 · exact hz
 unfold actK
 split
 · split
   · exact ackC_few (c:={ c with bak:=c.bak.eraseIdx _ }) { hc with bak:=hel _ _ g6 } (by show c.una.length + c.wai.length≤_;omega) _
   · exact rcvC_few (c:={ c with tos:=c.tos.eraseIdx _ }) { hc with tos:=hel _ _ g5 } (by show c.del.length + c.ear.length≤_;omega) _
 split
 · split
   · exact { hc with bak:=hel _ _ g6 }
   · exact { hc with tos:=hel _ _ g5 }
 split
 · split
   · exact hz
   · split
     · exact { hc with bak:=by show (c.bak++[_]).length≤_;rw [List.length_append];simp;omega }
     · exact { hc with tos:=by show (c.tos++[_]).length≤_;rw [List.length_append];simp;omega }
 · split
   · exact hz
   · split
     · exact { hc with bak:=by show (c.bak.set _ _).length≤_;rw [List.length_set];omega }
     · exact { hc with tos:=by show (c.tos.set _ _).length≤_;rw [List.length_set];omega }
end
section
theorem earB_len {nxt:Int}:∀ {l:List Pk} {last:Int},earB nxt last l=true→l=[]∨last + (l.length:Int) < nxt
 | [],_,_=>.inl rfl
 | p :: r,last,h=>by
  right
  have h0:=earB_get h 0 p rfl
  unfold earB at h
  rw [Bool.and_eq_true] at h
  rcases earB_len h.2 with g | g
  · subst g;simp;omega
  · simp only [List.length_cons];omega
variable {c:Ch}
theorem sm_of (hc:c.Few) (hk:chkC c=false):c.Sm:=by
 unfold chkC at hk
 simp only [Bool.or_eq_false_iff] at hk
 obtain ⟨⟨⟨⟨⟨h1,h2⟩,h3⟩,h4⟩,h5⟩,h6⟩:=hk
 unfold chk1 at h1
 unfold chk2 at h2
 unfold chk3 at h3
 unfold chk5 at h6
 simp only [Bool.or_eq_false_iff,decide_eq_false_iff_not,bne_eq_false_iff_eq] at h1 h2 h3 h6
 obtain ⟨⟨⟨⟨⟨a1,a2⟩,a3⟩,a4⟩,a5⟩,a6⟩:=h1
 obtain ⟨⟨b1,b2⟩,b3⟩:=h2
 obtain ⟨⟨d1,d2⟩,d3⟩:=h3
 obtain ⟨⟨⟨f1,f2⟩,f3⟩,f4⟩:=h6
 have w2:IntKind.i64.wrap (c.nxt + (c.wai.length:Int))=c.nxt + (c.wai.length:Int):=by
  have:=hc.wai
  exact Y1
 rw [w2] at b3
 have h4':earB c.nxt c.exp c.ear=true:=by simpa using h4
 refine ⟨by omega,by omega,?_,by omega,by omega,by omega⟩
 rcases earB_len h4' with g | g
 · rw [g];exact Nat.zero_le _
 · omega
structure Ch.G0 (c:Ch):Prop where
 win0:1≤c.win
 win1:c.win≤16
 base0:0≤c.base
 una:c.nxt - c.base=(c.una.length:Int)
 unaw:(c.una.length:Int)≤c.win
 nxt:c.nxt + (c.wai.length:Int)≤10000
 exp0:c.base≤c.exp
 exp1:c.exp≤c.nxt
 expd:c.exp=(c.del.length:Int)
 earb:earB c.nxt c.exp c.ear=true
 ut:∀ x ∈ c.una,x.size≤200
 wt:∀ x ∈ c.wai,x.size≤200
 dt:∀ x ∈ c.del,x.size≤200
 tl:c.tos.length≤200
 bl:c.bak.length≤200
 tt:∀ x ∈ c.tos,x.size≤212
 bt:∀ x ∈ c.bak,x.size≤212
structure Ch.Gd (c:Ch):Prop extends c.G0 where
 wai:(c.una.length:Int) < c.win→c.wai=[]
variable {l:List ByteArray}
theorem any_lng {m:Nat}:l.any (lngP (m:Int))=false ↔ ∀ x ∈ l,x.size≤m:=by
 rw [List.any_eq_false]
 constructor
 · intro h x hx
   have:=h x hx
   unfold lngP at this
   simp at this;omega
 · intro h x hx
   have:=h x hx
   unfold lngP
   simp;omega
theorem gd_of (hc:c.Few) (hk:chkC c=false):c.Gd:=by
 have hr:=rt_of (sm_of hc hk) hk
 unfold chkC at hk
 simp only [Bool.or_eq_false_iff] at hk
 obtain ⟨⟨⟨⟨⟨h1,h2⟩,h3⟩,h4⟩,h5⟩,h6⟩:=hk
 unfold chk4 at h5
 unfold chk5 at h6
 simp only [Bool.or_eq_false_iff,decide_eq_false_iff_not] at h5 h6
 obtain ⟨⟨e1,e2⟩,e3⟩:=h5
 obtain ⟨⟨⟨f1,f2⟩,f3⟩,f4⟩:=h6
 exact { win0:=hr.win0,win1:=hr.win1,base0:=hr.base0,una:=hr.una,unaw:=hr.unaw,nxt:=hr.nxt,exp0:=hr.exp0,exp1:=hr.exp1,expd:=hr.expd,earb:=hr.earb,ut:=(any_lng (m:=200)).1 e1,wt:=(any_lng (m:=200)).1 e2,dt:=(any_lng (m:=200)).1 e3,tl:=by omega,bl:=by omega,tt:=(any_lng (m:=212)).1 f3,bt:=(any_lng (m:=212)).1 f4,wai:=hr.wai }
theorem Ch.G0.few (h:c.G0):c.Few:=by
 have h1:=h.unaw;have h2:=h.win1;have h3:=h.nxt;have h4:=h.base0;have h5:=h.una;have h6:=h.expd;have h7:=h.exp1;have h8:=h.tl;have h9:=h.bl;have h10:=h.exp0
 refine ⟨by omega,by omega,?_,by omega,by omega,by omega⟩
 rcases earB_len h.earb with g | g
 · rw [g];exact Nat.zero_le _
 · omega
theorem chk_of (h:c.Gd):chkC c=false:=by
 have h1:=h.unaw;have h2:=h.win1;have h3:=h.nxt;have h4:=h.base0;have h5:=h.una;have h6:=h.expd;have h7:=h.exp1;have h8:=h.tl;have h9:=h.bl;have h10:=h.exp0;have h11:=h.win0
 have w1:IntKind.i64.wrap (c.nxt - c.base)=c.nxt - c.base:=by simp [IntKind.wrap,IntKind.signed,IntKind.bits];omega
 have w2:IntKind.i64.wrap (c.nxt + (c.wai.length:Int))=c.nxt + (c.wai.length:Int):=by simp [IntKind.wrap,IntKind.signed,IntKind.bits];omega
 unfold chkC chk1 chk2 chk3 chk4 chk5
 rw [w1,w2]
 simp only [Bool.or_eq_false_iff,decide_eq_false_iff_not,bne_eq_false_iff_eq,Bool.not_eq_false']
 refine ⟨⟨⟨⟨⟨⟨⟨⟨⟨⟨by omega,by omega⟩,by omega⟩,by omega⟩,h5⟩,by omega⟩,⟨⟨?_,by omega⟩,by omega⟩⟩,⟨⟨by omega,by omega⟩,h6⟩⟩,h.earb⟩,⟨⟨(any_lng (m:=200)).2 h.ut,(any_lng (m:=200)).2 h.wt⟩,(any_lng (m:=200)).2 h.dt⟩⟩,⟨⟨⟨by omega,by omega⟩,(any_lng (m:=212)).2 h.tt⟩,(any_lng (m:=212)).2 h.bt⟩⟩
 rw [Bool.and_eq_false_iff]
 by_cases hl:(c.una.length:Int) < c.win
 · right
   rw [h.wai hl];rfl
 · left
   exact decide_eq_false hl
theorem enC_size (q:Pk):(enC q).size≤212:=by
 unfold enC
 split
 · rename_i h
   rw [enB_size]
   have:=right_size h
   omega
 · exact Nat.zero_le _
theorem earB_mono {a b:Int} (hab:a≤b):∀ {l:List Pk} {last:Int},earB a last l=true→earB b last l=true
 | [],_,_=>rfl
 | p :: r,last,h=>by
  unfold earB at h ⊢
  rw [Bool.and_eq_true] at h ⊢
  refine ⟨?_,earB_mono hab h.2⟩
  have h1:=h.1
  simp only [Bool.not_eq_true',Bool.or_eq_false_iff,decide_eq_false_iff_not] at h1 ⊢
  obtain ⟨⟨⟨k1,k2⟩,k3⟩,k4⟩:=h1
  exact ⟨⟨⟨k1,k2⟩,by omega⟩,k4⟩
theorem pushT_all (q:Pk) (h:∀ x ∈ l,x.size≤212):∀ x ∈ pushT l q,x.size≤212:=by
 unfold pushT
 split
 · intro x hx
   rcases List.mem_append.1 hx with hx | hx
   · exact h x hx
   · rw [List.mem_singleton] at hx;subst hx;exact enC_size q
 · exact h
theorem pushT_200 (q:Pk) (h:l.length≤200):(pushT l q).length≤200:=pushT_len l q (Nat.le_refl _) h
theorem nextC_eq2 (c:Ch) (m:ByteArray):nextC c m={ ({ c with una:=c.una++[m] }:Ch) with tos:=pushT c.tos ⟨1,c.nxt,m⟩,nxt:=IntKind.i64.wrap (c.nxt + 1) }:=by rw [nextC_eq,pushT_eq]
theorem wrap1 {n:Int} (h0:0≤n) (h1:n≤100000):IntKind.i64.wrap (n + 1)=n + 1:=by simp [IntKind.wrap,IntKind.signed,IntKind.bits];omega
theorem mem_snoc {m:ByteArray} {n:Nat} (h:∀ x ∈ l,x.size≤n) (hm:m.size≤n):∀ x ∈ l++[m],x.size≤n:=fun x hx=>by
 rcases List.mem_append.1 hx with hx | hx
 · exact h x hx
 · rw [List.mem_singleton] at hx;subst hx;exact hm
theorem g0_next (h:c.G0) (m:ByteArray) (r:List ByteArray) (hw:c.wai=m :: r∨(c.nxt + (c.wai.length:Int) < 10000∧c.wai=[]∧r=[])) (hm:m.size≤200) (hl:(c.una.length:Int) < c.win):Ch.G0 { nextC c m with wai:=r }:=by
 have h3:=h.nxt;have h4:=h.base0;have h5:=h.una;have h7:=h.exp1;have h10:=h.exp0;have h2:=h.win1
 have hlr:c.nxt + 1 + (r.length:Int)≤10000:=by
  rcases hw with hw | ⟨hw1,hw2,rfl⟩
  · rw [hw] at h3;simp at h3;omega
  · rw [hw2] at hw1;simp at hw1 ⊢;omega
 have hwt:∀ x ∈ r,x.size≤200:=fun x hx=>by
  rcases hw with hw | ⟨_,_,rfl⟩
  · exact h.wt x (by rw [hw];exact List.mem_cons_of_mem _ hx)
  · cases hx
 rw [nextC_eq2,wrap1 (by omega) (by omega)]
 exact { win0:=h.win0,win1:=h.win1,base0:=h.base0,una:=by show c.nxt + 1 - c.base=((c.una++[m]).length:Int);rw [List.length_append];simp;omega,unaw:=by show ((c.una++[m]).length:Int)≤c.win;rw [List.length_append];simp;omega,nxt:=hlr,exp0:=h.exp0,exp1:=by show c.exp≤c.nxt + 1;omega,expd:=h.expd,earb:=earB_mono (show c.nxt≤c.nxt + 1 by omega) h.earb,ut:=mem_snoc h.ut hm,wt:=hwt,dt:=h.dt,tl:=pushT_200 _ h.tl,bl:=h.bl,tt:=pushT_all _ h.tt,bt:=h.bt }
theorem g0_fill:∀ (n:Nat) {c:Ch},c.wai.length≤n→c.G0→(fillN n c).Gd
 | 0,c,hn,h=>{ toG0:=h,wai:=fun _=>List.eq_nil_of_length_eq_zero (show c.wai.length=0 by omega) }
 | n + 1,c,hn,h=>by
  unfold fillN
  cases hw:c.wai with
  | nil=>exact { toG0:=h,wai:=fun _=>hw }
  | cons m r=>
   show (if _ then _ else _:Ch).Gd
   have hwl:c.wai.length=r.length + 1:=by rw [hw];rfl
   by_cases hl:(c.una.length:Int) < c.win
   · rw [if_pos hl]
     exact g0_fill n (by show r.length≤n;omega) (g0_next h m r (.inl hw) (h.wt m (by rw [hw];exact List.mem_cons_self)) hl)
   · rw [if_neg hl]
     exact { toG0:=h,wai:=fun h'=>absurd h' hl }
theorem gd_ack (h:c.Gd) (s:ByteArray):(ackC c s).Gd:=by
 unfold ackC
 split
 · exact h
 · rename_i hn
   have hn':=eq_false_of_ne_true hn
   simp only [Bool.or_eq_false_iff,decide_eq_false_iff_not] at hn'
   obtain ⟨⟨_,n1⟩,n2⟩:=hn'
   have h1:=h.unaw;have h2:=h.win1;have h3:=h.nxt;have h4:=h.base0;have h5:=h.una;have h7:=h.exp1;have h10:=h.exp0
   refine g0_fill _ (Nat.le_refl _) { win0:=h.win0,win1:=h.win1,base0:=by show 0≤(deP s).nu;omega,una:=?_,unaw:=?_,nxt:=h.nxt,exp0:=by show (deP s).nu≤c.exp;omega,exp1:=h.exp1,expd:=h.expd,earb:=h.earb,ut:=fun x hx=>h.ut x (List.mem_of_mem_drop hx),wt:=h.wt,dt:=h.dt,tl:=h.tl,bl:=h.bl,tt:=h.tt,bt:=h.bt }
   · show c.nxt - (deP s).nu=((c.una.drop ((deP s).nu - c.base).toNat).length:Int)
     rw [List.length_drop];omega
   · show ((c.una.drop ((deP s).nu - c.base).toNat).length:Int)≤c.win
     rw [List.length_drop];omega
structure Ch.Gq (c:Ch):Prop where
 base0:0≤c.base
 nxt:c.nxt + (c.wai.length:Int)≤10000
 exp0:c.base≤c.exp
 exp1:c.exp≤c.nxt
 expd:c.exp=(c.del.length:Int)
 earb:earB c.nxt (c.exp - 1) c.ear=true
 dt:∀ x ∈ c.del,x.size≤200
structure Ch.SameS (a b:Ch):Prop where
 win:a.win=b.win
 base:a.base=b.base
 nxt:a.nxt=b.nxt
 una:a.una=b.una
 wai:a.wai=b.wai
 tos:a.tos=b.tos
 bak:a.bak=b.bak
theorem gq_del (h:c.Gq) (q:Pk) (r:List Pk) (hq:q.nu=c.exp) (hlt:q.nu < c.nxt) (hb:q.bo.size≤200) (he:earB c.nxt c.exp r=true):Ch.Gq (delC { c with ear:=r } q):=by
 have h3:=h.nxt;have h4:=h.base0;have h10:=h.exp0;have h7:=h.exp1;have h6:=h.expd
 have hw:IntKind.i64.wrap (c.exp + 1)=c.exp + 1:=wrap1 (by omega) (by omega)
 unfold delC
 dsimp only
 rw [hw]
 exact { base0:=h.base0,nxt:=h.nxt,exp0:=by show c.base≤c.exp + 1;omega,exp1:=by show c.exp + 1≤c.nxt;omega,expd:=by show c.exp + 1=((c.del++[q.bo]).length:Int);rw [List.length_append];simp;omega,earb:=by show earB c.nxt (c.exp + 1 - 1) r=true;rw [show c.exp + 1 - 1=c.exp by omega];exact he,dt:=mem_snoc h.dt hb }
theorem gq_due:∀ (n:Nat) {c:Ch},c.ear.length≤n→c.Gq→(dueN n c).Gq∧earB (dueN n c).nxt (dueN n c).exp (dueN n c).ear=true∧Ch.SameS (dueN n c) c
 | 0,c,hn,h=>by
  have he:c.ear=[]:=List.eq_nil_of_length_eq_zero (by omega)
  refine ⟨h,?_,⟨rfl,rfl,rfl,rfl,rfl,rfl,rfl⟩⟩
  show earB c.nxt c.exp c.ear=true
  rw [he];rfl
 | n + 1,c,hn,h=>by
  unfold dueN
  cases hw:c.ear with
  | nil=>exact ⟨h,by show earB c.nxt c.exp c.ear=true;rw [hw];rfl,⟨rfl,rfl,rfl,rfl,rfl,rfl,rfl⟩⟩
  | cons q r=>
   have he:=h.earb
   rw [hw] at he
   have hq0:=earB_get he 0 q rfl
   have hwl:c.ear.length=r.length + 1:=by rw [hw];rfl
   have he2:=he
   unfold earB at he2
   rw [Bool.and_eq_true] at he2
   show Ch.Gq (if _ then _ else _)∧earB (Ch.nxt (if _ then _ else _)) (Ch.exp (if _ then _ else _)) (Ch.ear (if _ then _ else _))=true∧Ch.SameS (if _ then _ else _) c
   by_cases hq:(q.nu == c.exp)=true
   · have hq':q.nu=c.exp:=by simpa using hq
     have hg:=gq_del h q r hq' hq0.2.1 hq0.2.2.2 (by rw [← hq'];exact he2.2)
     have:=gq_due n (c:=delC { c with ear:=r } q) (by show r.length≤n;omega) hg
     simp only [hq,if_true]
     obtain ⟨g1,g2,g3⟩:=this
     exact ⟨g1,g2,⟨g3.win,g3.base,g3.nxt,g3.una,g3.wai,g3.tos,g3.bak⟩⟩
   · have hq':¬ q.nu=c.exp:=by simpa using hq
     simp only [hq,if_false]
     refine ⟨h,?_,⟨rfl,rfl,rfl,rfl,rfl,rfl,rfl⟩⟩
     show earB c.nxt c.exp c.ear=true
     rw [hw]
     unfold earB
     rw [Bool.and_eq_true]
     refine ⟨?_,he2.2⟩
     have h1:=he2.1
     simp only [Bool.not_eq_true',Bool.or_eq_false_iff,decide_eq_false_iff_not] at h1 ⊢
     obtain ⟨⟨⟨k1,k2⟩,k3⟩,k4⟩:=h1
     exact ⟨⟨⟨k1,by omega⟩,k3⟩,k4⟩
theorem earB_ins {nxt:Int} (q:Pk) (hk:q.kd=1) (hn:q.nu < nxt) (hb:q.bo.size≤200):∀ {l:List Pk} {last:Int},earB nxt last l=true→last < q.nu→earB nxt last (insF q l)=true
 | [],last,_,hl=>by
  unfold insF earB
  simp [hk]
  exact ⟨⟨⟨by omega,by omega⟩,by omega⟩,rfl⟩
 | e :: r,last,h,hl=>by
  have h0:=earB_get h 0 e rfl
  have h2:=h
  unfold earB at h2
  rw [Bool.and_eq_true] at h2
  unfold insF
  by_cases h1:e.nu=q.nu
  · rw [if_pos h1];exact h
  · rw [if_neg h1]
    by_cases h3:e.nu > q.nu
    · rw [if_pos h3]
      unfold earB
      rw [Bool.and_eq_true]
      refine ⟨?_,?_⟩
      · simp [hk];omega
      · unfold earB
        rw [Bool.and_eq_true]
        refine ⟨?_,h2.2⟩
        have h4:=h2.1
        simp only [Bool.not_eq_true',Bool.or_eq_false_iff,decide_eq_false_iff_not] at h4 ⊢
        obtain ⟨⟨⟨k1,k2⟩,k3⟩,k4⟩:=h4
        exact ⟨⟨⟨k1,by omega⟩,k3⟩,k4⟩
    · rw [if_neg h3]
      unfold earB
      rw [Bool.and_eq_true]
      exact ⟨h2.1,earB_ins q hk hn hb h2.2 (by omega)⟩
theorem right_of {s:ByteArray} (h:deE s=0):(deP s).right=true:=by
 unfold deE at h
 unfold deP
 split at h
 · cases h
 · rename_i h1
   rw [if_neg h1]
   split at h
   · cases h
   · rename_i h2
     rw [if_neg h2]
     have h3:=eq_false_of_ne_true h2
     unfold deW at h3
     simp only [Bool.or_eq_false_iff] at h3
     simpa using h3.2
theorem gd_ans (h:c.Gd):(ansC c).Gd:=by
 unfold ansC sendB
 split
 · rename_i hl
   exact { h with bl:=by show (c.bak++[_]).length≤200;rw [List.length_append];simp;omega,bt:=mem_snoc h.bt (enC_size _) }
 · exact h
theorem gd_rcvG (h:c.Gd) (q:Pk) (hk:q.kd=1) (hb:q.bo.size≤200):(rcvG c q).Gd:=by
 have h3:=h.nxt;have h4:=h.base0;have h10:=h.exp0;have h7:=h.exp1
 unfold rcvG
 split
 · rename_i hc
   rw [Bool.and_eq_true] at hc
   have c1:q.nu=c.exp:=by simpa using hc.1
   have c2:=oR hc.2
   have hg:Ch.Gq (delC c q):=by
    have hw:IntKind.i64.wrap (c.exp + 1)=c.exp + 1:=wrap1 (by omega) (by omega)
    unfold delC
    rw [hw]
    exact { base0:=h.base0,nxt:=h.nxt,exp0:=by show c.base≤c.exp + 1;omega,exp1:=by show c.exp + 1≤c.nxt;omega,expd:=by show c.exp + 1=((c.del++[q.bo]).length:Int);rw [List.length_append];simp;have:=h.expd;omega,earb:=by show earB c.nxt (c.exp + 1 - 1) c.ear=true;rw [show c.exp + 1 - 1=c.exp by omega];exact h.earb,dt:=mem_snoc h.dt hb }
   obtain ⟨g1,g2,g3⟩:=gq_due c.ear.length (c:=delC c q) (Nat.le_refl _) hg
   have e1:(delC c q).win=c.win:=rfl
   exact { win0:=by rw [g3.win];exact h.win0,win1:=by rw [g3.win];exact h.win1,base0:=g1.base0,una:=by rw [g3.nxt,g3.base,g3.una];exact h.una,unaw:=by rw [g3.win,g3.una];exact h.unaw,nxt:=g1.nxt,exp0:=g1.exp0,exp1:=g1.exp1,expd:=g1.expd,earb:=g2,ut:=by rw [g3.una];exact h.ut,wt:=by rw [g3.wai];exact h.wt,dt:=g1.dt,tl:=by rw [g3.tos];exact h.tl,bl:=by rw [g3.bak];exact h.bl,tt:=by rw [g3.tos];exact h.tt,bt:=by rw [g3.bak];exact h.bt,wai:=by rw [g3.una,g3.win,g3.wai];exact h.wai }
 · split
   · rename_i hc
     rw [Bool.and_eq_true,Bool.and_eq_true] at hc
     have c1:=oR hc.1.1
     have c3:=oR hc.2
     exact { h with earb:=earB_ins q hk c3 hb h.earb c1 }
   · exact h
theorem rcv_ofG (h:c.Gd):c.Rcv:=by
 have hk:=chk_of h
 have hs:=sm_of h.few hk
 exact rcv_of hs (rt_of hs hk)
theorem gd_rcv (h:c.Gd) (s:ByteArray):(rcvC c s).Gd:=by
 rw [← rcvF_eq (rcv_ofG h)]
 unfold rcvF
 split
 · exact h
 · rename_i hn
   have hn':=eq_false_of_ne_true hn
   rw [Bool.or_eq_false_iff] at hn'
   have e0:deE s=0:=by simpa using hn'.1
   have k0:(deP s).kd=1:=by simpa using hn'.2
   exact gd_ans (gd_rcvG h _ k0 (right_size (right_of e0)))
theorem gd_tick (h:c.Gd):(tickC c).Gd:=by
 have key:∀ (l:List ByteArray) (z:Nat) (T:List ByteArray),T.length≤200→(∀ x ∈ T,x.size≤212)→(tickL c.base z l T).length≤200∧∀ x ∈ tickL c.base z l T,x.size≤212:=by
  intro l
  induction l with
  | nil=>exact fun z T h1 h2=>⟨h1,h2⟩
  | cons m r ih=>exact fun z T h1 h2=>ih (z + 1) _ (pushT_200 _ h1) (pushT_all _ h2)
 obtain ⟨k1,k2⟩:=key c.una 0 c.tos h.tl h.tt
 exact { h with tl:=k1,tt:=k2 }
theorem gd_tos (h:c.Gd) (l:List ByteArray) (h1:l.length≤200) (h2:∀ x ∈ l,x.size≤212):Ch.Gd { c with tos:=l }:={ h with tl:=h1,tt:=h2 }
theorem gd_bak (h:c.Gd) (l:List ByteArray) (h1:l.length≤200) (h2:∀ x ∈ l,x.size≤212):Ch.Gd { c with bak:=l }:={ h with bl:=h1,bt:=h2 }
theorem erase_ok (i:Nat) (h1:l.length≤200) (h2:∀ x ∈ l,x.size≤212):(l.eraseIdx i).length≤200∧∀ x ∈ l.eraseIdx i,x.size≤212:=
 ⟨by rw [List.length_eraseIdx];split<;>omega,fun x hx=>h2 x (List.mem_of_mem_eraseIdx hx)⟩
end
section
theorem c21F (c:Ch) (k:Int) (b:Bool) (ix at_:Int) (hc:c.Few):ActP c k b ix at_ (actS c k b ix at_):=by
 cases hk:chkC c with
 | true=>
  unfold actS
  rw [if_pos hk]
  exact Pf.L (c21e1 c k b ix at_ hc hk)
 | false=>exact c21 c k b ix at_ (sm_of hc hk)
theorem actS_fewF {c:Ch} (hc:c.Few) (k:Int) (b:Bool) (ix at_:Int):(actS c k b ix at_).1.Few:=by
 cases hk:chkC c with
 | true=>
  unfold actS
  rw [if_pos hk]
  exact ⟨Nat.zero_le _,Nat.zero_le _,Nat.zero_le _,Nat.zero_le _,Nat.zero_le _,Nat.zero_le _⟩
 | false=>exact actS_few (sm_of hc hk) k b ix at_
def playF:List Ac→Ch×Int→Ch×Int
 | [],s=>s
 | a :: r,s=>playF r (if (actS s.1 a.k a.b a.ix a.at_).2=0 then ((actS s.1 a.k a.b a.ix a.at_).1,IntKind.i64.wrap (s.2 + 1)) else s)
def playS (c:Ch) (l:List Ac):Ch×Int:=if chkC c=true then (zeroC,0) else playF l (c,0)
def playE (c:Ch):Int:=if chkC c=true then 331 else 0
set_option maxRecDepth 100000 in
theorem c28 (c:Ch) (l:List Ac) (hc:c.Few) (hl:l.length≤1000000):PL 28 [c.d,.sl (aD l)] (.tup [.d (playS c l).1.d,.d (.int .i64 (playS c l).2),.d (.int .i64 (playE c))]):=by
 have hc':=hc
 obtain ⟨h0,h1,h2,h3,h4,h5⟩:=hc'
 have q16:=c16 c (by omega) (by omega) (by omega) (by omega) (by omega) (by omega)
 have q40:=c40 c hc
 unfold playS playE
 cases hk:chkC c with
 | true=>
  rw [if_pos hk] at q16
  rw [if_pos rfl,if_pos rfl]
  unfold Ch.d at q16 ⊢
  refine plB Tryd.func28 Tryd.ntmps28 Tryd.results28 (fun S0 O0 w0 m0 hL hm0=>?_)
  repeat' first | refine s_ ?_ | refine c_ q16 ?_ | fail
  refine Z16 ?_
  repeat' first | refine s_ ?_ | fail
  exact e_
 | false=>
 rw [if_neg (by rw [hk];decide)] at q16
 rw [if_neg (by decide),if_neg (by decide)]
 generalize hF:playF l (c,0)=F
 unfold Ch.d at q16 q40 ⊢
 refine plB Tryd.func28 Tryd.ntmps28 Tryd.results28 (fun S0 O0 w0 m0 hL hm0=>?_)
 repeat' first | refine s_ ?_ | refine c_ q16 ?_ | fail
 refine Z1 ?_
 repeat' first | refine s_ ?_ | fail
 refine cn (by exact rfl) q40 (r':=.agg (ChA c p0 5 6 7 8 9 10)) (mem':=(chD c :: zcel :: unk 10 :: unk 10 :: unk 5 :: ChR c p0)) ?_ rfl (by rw [List.map_append,ChR_rens];rfl)
 refine Z17 ?_
 refine kp [(1,.d (.sl (aD l))),(2,.ref 0 0),(4,.ref 1 0),(5,.d (.int .i64 0)),(6,.d (.int .i64 0))] ⟨rfl,rfl,rfl,rfl,rfl,trivial⟩ ?_
 refine (show GF _ _ _ _ ⟨_,ChA c p0 5 6 7 8 9 10 :: zcel :: unk 10 :: unk 10 :: unk 5 :: ChR c p0⟩ from ?_)
 refine gChD4 p0_ok ?_ (by show m0.length≤5;omega)
 repeat' first | refine s_ ?_ | fail
 refine gLo (fun x:Nat×Ch×Int=>⟨[(2,.ref 0 0),(4,.ref 1 0),(5,.d (.int .i64 0)),(6,.d (.int .i64 0)),(8,.d (.int .i64 x.2.2)),(21,.d (.sl (aD l))),(22,.d (.int .i64 ((aD l).length:Int))),(23,.d (.int .i64 (x.1:Int)))],[chD x.2.1,zcel]⟩) (fun x=>l.length - x.1) (fun x=>x.1≤l.length∧x.2.1.Few∧playF (l.drop x.1) x.2=F) (0,c,0) ⟨Nat.zero_le _,hc,hF⟩ ?_ (fun x hx Q' hn he hr hp=>?_)
 · exact Le_0 hm0 (.cons CSa (.cons CSa .nil)) SSa
 obtain ⟨z,c2,n⟩:=x
 obtain ⟨hz,hf2,hF2⟩:z≤l.length∧c2.Few∧playF (l.drop z) (c2,n)=F:=hx
 refine (show GF _ _ _ _ ⟨[(2,.ref 0 0),(4,.ref 1 0),(5,.d (.int .i64 0)),(6,.d (.int .i64 0)),(8,.d (.int .i64 n)),(21,.d (.sl (aD l))),(22,.d (.int .i64 ((aD l).length:Int))),(23,.d (.int .i64 (z:Int)))],[chD c2,zcel]⟩ from ?_)
 repeat' first | refine s_ ?_ | fail
 refine d_ (fun hb=>?_) (fun hb=>?_)
 · have hlt:z < l.length:=by have:=oR hb;rw [aD_len] at this;omega
   obtain ⟨a,hga⟩:∃ a,l[z]? = some a:=⟨_,gE hlt⟩
   have hpa:=aD_get hga
   rw [drop_get hga] at hF2
   have q21:PL 21 [c2.d,acD a.k a.b a.ix a.at_] (.tup ([(actS c2 a.k a.b a.ix a.at_).1.d,D.int .i64 (actS c2 a.k a.b a.ix a.at_).2].map .d)):=c21F c2 a.k a.b a.ix a.at_ hf2
   have hf3:=actS_fewF hf2 a.k a.b a.ix a.at_
   unfold playF at hF2
   dsimp only at hF2
   unfold acD at q21
   generalize (actS c2 a.k a.b a.ix a.at_).1=c3 at q21 hf3 hF2
   generalize (actS c2 a.k a.b a.ix a.at_).2=e3 at q21 hF2
   unfold Ch.d at q21
   repeat' first | refine s_ ?_ | refine el (by exact rfl) hpa ?_ | refine clL hL (by exact rfl) q21 ?_ | fail
   refine d_ (fun hb=>?_) (fun hb=>?_)
   · have he3:e3=0:=by simpa using hb
     rw [if_pos he3] at hF2
     repeat' first | refine s_ ?_ | fail
     rw [show IntKind.i64.wrap ((z:Int) + 1)=((z + 1:Nat):Int) by rw [wrap_i64 (by omega) (by omega)];rfl]
     exact Y5
   · have he3:¬ e3=0:=by simpa using hb
     rw [if_neg he3] at hF2
     repeat' first | refine s_ ?_ | fail
     rw [show IntKind.i64.wrap ((z:Int) + 1)=((z + 1:Nat):Int) by rw [wrap_i64 (by omega) (by omega)];rfl]
     exact Y9
 · have hle:l.length≤z:=by have:=of_decide_eq_false hb;rw [aD_len] at this;omega
   rw [List.drop_eq_nil_of_le hle,playF] at hF2
   subst hF2
   repeat' first | refine s_ ?_ | fail
   refine Z15 ?_
   repeat' first | refine s_ ?_ | fail
   exact e_
end
section
def PkOf (M:List ByteArray) (nxt:Int) (q:Pk):Prop:=q.right=true∧(q.kd=1→0≤q.nu∧q.nu < nxt∧M[q.nu.toNat]? = some q.bo)
def Fl (M:List ByteArray) (nxt:Int) (x:ByteArray):Prop:=∃ (q:Pk) (j:Nat),PkOf M nxt q∧x=(enB q).extract 0 j
theorem Fl.mono {M:List ByteArray} {a b:Int} {x:ByteArray} (hab:a≤b) (h:Fl M a x):Fl M b x:=by
 obtain ⟨q,j,⟨h1,h2⟩,h3⟩:=h
 exact ⟨q,j,⟨h1,fun hk=>⟨(h2 hk).1,by have:=(h2 hk).2.1;omega,(h2 hk).2.2⟩⟩,h3⟩
end
end Go.Proofs.YtoonleefemkalaaDoor
