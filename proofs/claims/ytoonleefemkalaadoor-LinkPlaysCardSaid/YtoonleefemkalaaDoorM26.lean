import Derived.Test.YtoonleefemkalaaDoorM25
import Derived.Test.YtoonleefemkalaaDoorM17
import Derived.Test.YtoonleefemkalaaDoorM23
/- Contracts of functions. Conditions: none. -/
set_option linter.unusedSimpArgs false
set_option linter.unusedVariables false
set_option maxRecDepth 20000
namespace Go.Proofs.YtoonleefemkalaaDoor
open Go Go.Proofs.YtoonleefemkalaaDoor.E
section
theorem pD_snoc (l:List Pk) (q:Pk):pD l++[q.d]=pD (l++[q]):=by simp [pD]
theorem insK_end (l:List Pk) (q:Pk):insK l l.length q=l++[q]:=by
 unfold insK
 rw [List.take_length,List.drop_length]
set_option maxRecDepth 100000 in
theorem c68e (xs:List Pk) (q:Pk) (pre post:List D) (hpre:∀ x ∈ pre,x.cells.length=3) (hpost:∀ x ∈ post,x.cells.length=3) (hl:xs.length≤1000000):
 Gj 0 Tryd.prog 68 [rowV 0 3 pre (pD xs) post,.d (.int .i64 (xs.length:Int)),.d (.sl [q.d])] [flat (pre++pD xs++post)] (InsR xs xs.length q):=by
 refine gjB 0 1 Tryd.func68 Tryd.ntmps68 Tryd.results68 (fun S0 O0 w0 m0 hm0=>?_)
 repeat' first | refine s_ ?_ | fail
 refine gq (p:=.rsl 0 (rlo 3 (pre++(pD xs).take xs.length) ((pD xs).drop xs.length) post) ((pD xs).length - xs.length) 3) (by exact rfl) (fun _ ht=>?_) ?_
 · exact Q_rowSlice (pre:=pre) (xs:=pD xs) (post:=post) (i:=(xs.length:Int)) rfl rfl rfl rfl u42 sz28 (by omega) (by rw [pD_len];exact Int.le_refl _)
 repeat' first | refine s_ ?_ | fail
 refine cd (by exact rfl) (fun hb=>by simp at hb) (fun _=>?_)
 repeat' first | refine s_ ?_ | fail
 refine d_ (fun _=>?_) (fun hb=>?_)
 rotate_left
 · rw [pD_len] at hb;simp at hb
 repeat' first | refine s_ ?_ | fail
 refine gApG (pre:=pre) (xs:=pD xs) (post:=post) (ys:=[q.d]) rfl rfl rfl rfl rfl (by rw [hm0];decide) (nref_flat1 _) rfl (by simp) (row_k hpre (pD_k _) hpost) (by simp [Pk.d,D.cells]) (by decide) u42 inf28 rfl (by simp [Value.cells,Value.oneCell']) (by rw [pD_len];unfold lim;simp;omega) (by rw [pD_len];unfold lim;simp;omega) (Nat.le_of_ble_eq_true rfl) (fun a b hab=>?_)
 rw [← List.length_append,pD_snoc,← insK_end]
 rw [pD_snoc,← insK_end] at hab
 repeat' first | refine s_ ?_ | fail
 exact enj (mem':=[flat (a++pD (insK xs xs.length q)++b)]) (by exact rfl) ⟨a,b,fun x hx=>hab x (List.mem_append_left _ (List.mem_append_left _ hx)),fun x hx=>hab x (List.mem_append_right _ hx),rfl,rfl⟩ (.cons (CSub_flat _ _) .nil)
theorem c68 (xs:List Pk) (q:Pk) (pre post:List D) (i:Nat) (hpre:∀ x ∈ pre,x.cells.length=3) (hpost:∀ x ∈ post,x.cells.length=3) (hi:i≤xs.length) (hl:xs.length≤1000000) (S0:Reg) (w0:World):
 GCallP [2] S0 w0 0 Tryd.prog 68 [rowV 0 3 pre (pD xs) post,.d (.int .i64 (i:Int)),.d (.sl [q.d])] [flat (pre++pD xs++post)] (InsR xs i q):=by
 rcases Nat.lt_or_ge i xs.length with h | h
 · exact c68i xs q pre post i hpre hpost h hl S0 w0
 · obtain rfl:i=xs.length:=Nat.le_antisymm hi h
   exact fun w S O m vals _ _ h3 h4 h5 _=>(c68e xs q pre post hpre hpost hl).2 w S O m vals h3 h4 h5
end
section
noncomputable def c50x:Code:=match Tryd.f60.body with
 | some (.seq _ (.seq _ (.seq _ (.seq (.block _ (.seq _ (.cond _ _ (.seq _ (.cond _ _ (.seq _ (.cond _ y _))))))) _))))=>y
 | _=>.skip
noncomputable def r12:Code:=match c50x with
 | .seq _ (.seq _ (.cond _ y _))=>y
 | _=>.skip
def At2 (c':Ch) (s':GS):Prop:=∃ p':Pp,p'.Ok∧s'.mem=ChM c' p'++[[.ref 0 0]]∧s'.slots.lookup 2=some (.ref 7 0)
def insC (c:Ch) (i:Nat) (q:Pk):Ch:={ c with ear:=insK c.ear i q }
theorem tq0 {K:Ctx} {ops:Array Oper} {kl:List (Nat×Nat)} {base pre:List (Nat×PV)} {fs:List (Nat×Nat×PV)} {X S i t:Nat} {m0 m1 m2:List (List PV)} {p:PV} {ob:List (Bool×Bool)} (hs:pick fs (dsK kl ops i)++base=pre) (he:entsOf i fs=[(t,p)]) (hX:Nat.beq i X=false) (hS:Nat.beq i S=false)
 (h0:∀ rest,E.step tab ops.toList K.n i ⟨pre++rest,m0⟩=some (ob,⟨(t,p) :: (pre++rest),m0⟩)) (h1:∀ rest,E.step tab ops.toList K.n i ⟨pre++rest,m1⟩=some (ob,⟨(t,p) :: (pre++rest),m1⟩)) (h2:∀ rest,E.step tab ops.toList K.n i ⟨pre++rest,m2⟩=some (ob,⟨(t,p) :: (pre++rest),m2⟩)) (hT:tabB K.P tab=true:=by exact tabOk) (ho0:Obl ob:=by exact Obl.nil):TabOp K ops kl base fs X S m0 m1 m2 i:=
 tQ hs he hX hS (fun rest _ hg=>toO (gv hT (h0 rest) (ofO hg) ho0)) (fun rest _ hg=>toO (gv hT (h1 rest) (ofO hg) ho0)) (fun rest _ hg=>toO (gv hT (h2 rest) (ofO hg) ho0))
def Pe:Type:={ q:List D×List D // (∀ x ∈ q.1,x.cells.length=3)∧∀ x ∈ q.2,x.cells.length=3 }
theorem g12 {S0:Reg} {O0:Owns} {w0:World} {m0:List Nat} (hm0:m0.length=1) (c:Ch) (p:Pp) (hp:p.Ok) (hc:c.Few) (q:Pk) (i:Nat) (hi:i≤c.ear.length):
 GF ⟨Tryd.prog,95,S0,O0,w0,m0,[],[]⟩ [] (.code r12) (fun e s'=>e=.normal∧At2 (insC c i q) s') ⟨[(2,.ref 7 0),(4,.d (.ptr q.d)),(7,.d (.int .i64 (i:Int)))],ChM c p++[[.ref 0 0]]⟩:=by
 unfold Pk.d
 refine gTab (A:=Pe) (m1:=fun a=>(((ChM c p).set 0 ((ChA c p 1 2 3 4 5 6).set 6 .undef)).set 6 (flat (a.1.1++pD (insK c.ear i q)++a.1.2)))++[[.ref 0 0]]) (m2:=fun a=>ChM (insC c i q) { p with e1:=a.1.1,e2:=a.1.2 }++[[.ref 0 0]])
  8 11 [(4,8)] (nrefL [6]) [(0,75,.ref 0 0),(1,76,.ref 0 0),(2,77,.ref 0 0),(3,78,.ref 0 6),(4,79,rowV 6 3 p.e1 (pD c.ear) p.e2),(5,80,.d (.int .i64 (i:Int))),(6,81,.d (.agg [.int .i64 q.kd,.int .i64 q.nu,.str q.bo])),(7,82,.osl 3 [.agg [.int .i64 q.kd,.int .i64 q.nu,.str q.bo]])]
  [(9,84,.ref 0 0),(10,85,.ref 0 6)] 83 (fun a=>rowV 6 3 a.1.1 (pD (insK c.ear i q)) a.1.2) ⟨([],[]),by simp,by simp⟩ [0,1,2,3,4,5,6,7,9,10,11]
  (by exact rfl) mixed (by kernel_rfl) rfl (by kernel_rfl) rfl rfl rfl rfl rfl rfl rfl (by exact rfl) (fun rest Q' hQ=>?_) (fun a=>?_) rfl (by kernel_rfl) (fun a h=>absurd h (by decide)) (fun a=>?_)
 · refine gCell 0 6 rfl rfl ?_ rfl rfl
   refine gJP (jn:=0) [6] [2] (xs:=[.tmp 79,.tmp 80,.tmp 82]) (args0:=[rowV 0 3 p.e1 (pD c.ear) p.e2,.d (.int .i64 (i:Int)),.d (.sl [q.d])]) (mem0:=[flat (p.e1++pD c.ear++p.e2)]) (R:=InsR c.ear i q) rfl rfl rfl rfl (Nat.le_of_ble_eq_true rfl) (by exact rfl) (fun jj hjj=>?_) Tryd.func68 rfl rfl (c68 c.ear q p.e1 p.e2 i hp.e1 hp.e2 hi hc.ear _ _) (by decide) (fun b hb=>?_) ?_ rfl ?_ (fun b hb=>?_) ?_ ?_
   · rw [List.mem_singleton] at hjj;subst hjj
     exact ⟨82,3,_,rfl,rfl⟩
   · rw [List.mem_singleton] at hb;subst hb
     exact Y11
   · show [_]=_
     exact Y3
   · show (_ && _)=true
     rw [refs_flat];rfl
   · have:b=6:=by
      have h:∀ b ∈ List.drop 0 [6],b=6:=by decide
      exact h b hb
     subst this;show m0.length≤6;omega
   · simp only [ChM,ChR,ChA,rowV,List.cons_append,List.nil_append,List.set_cons_zero,List.set_cons_succ,nrefLM,PV.nrefs,PV.nref,nrefs_flat,List.drop_zero,List.all_cons,List.all_nil,Bool.or_true,Bool.true_and,Bool.and_true]<;>rfl
   · rintro r m ⟨pre',post',h1,h2,rfl,rfl⟩ _
     have e1:∀ f:Nat→Nat,(List.take [6].length [flat (pre'++pD (insK c.ear i q)++post')]).map (PV.rens f)=[flat (pre'++pD (insK c.ear i q)++post')]:=fun f=>by
      show [PV.rens f (flat _)]=_
      rw [rens_flat]
     unfold stJ
     rw [e1]
     exact hQ ⟨(pre',post'),h1,h2⟩
 · refine ⟨?_,?_,?_,?_,?_,?_,?_,?_,?_,?_,?_,trivial⟩
   · exact tq0 (by exact rfl) (by exact rfl) rfl rfl (by exact fun _=>rfl) (by exact fun _=>rfl) (by exact fun _=>rfl)
   iterate 6 exact ta_
   · exact tal (by exact rfl) (by exact rfl) rfl rfl (by kernel_rfl) (by exact fun _=>rfl)
   iterate 2 exact tb (by exact rfl) (by exact rfl) rfl rfl (by kernel_rfl) (by kernel_rfl) (by exact fun _=>rfl)
   · exact ts (by exact rfl) (by exact rfl) rfl (by kernel_rfl) (by exact fun _=>rfl)
 · exact toL ⟨rfl,{ p with e1:=a.1.1,e2:=a.1.2 },{ hp with e1:=a.2.1,e2:=a.2.2 },rfl,rfl⟩
end
section
theorem rw_skip {K:Ctx} {Post:Exit→Act→World→Prop} {s:GS} (h:∀ a w,At K s a w→Post .normal a w):RW K .skip Post s:=fun a w hat=>wp_skip (h a w hat)
theorem At_kp {K:Ctx} {sl sl':List (Nat×PV)} {mem:List (List PV)} {a:Act} {w:World} (hk:Kps sl sl') (h:At K ⟨sl,mem⟩ a w):At K ⟨sl',mem⟩ a w:=leKp hk a w h
def ansC (c:Ch):Ch:=sendB c ⟨2,c.exp,ByteArray.empty⟩
def rcvR (c:Ch):PV→List (List PV)→Prop:=fun q m=>q=.tup []∧∃ p':Pp,p'.Ok∧m=ChM c p'
variable {S0:Reg} {O0:Owns} {w0:World} {m0:List Nat}
theorem t13a {ds:List Deferred} (hm0:m0.length=1) (c:Ch) (p:Pp) (hp:p.Ok):GF ⟨Tryd.prog,95,S0,O0,w0,m0,[],ds⟩ [] (.code r13) (E.Fin Tryd.prog [] 7 (rcvR (ansC c))) ⟨[(2,.ref 7 0)],ChM c p++[[.ref 0 0]]⟩:=by
 have q58:=c58b c ⟨2,c.exp,ByteArray.empty⟩
 unfold Pk.d at q58
 refine tabC 8 94 [(0,86,.ref 0 0),(1,87,.ref 0 0),(2,88,.ref 0 9),(3,89,.ref 0 0),(4,90,.ref 0 0),(5,91,.ref 0 5),(6,92,.d (.int .i64 c.exp)),(7,93,.d (.agg [.int .i64 2,.int .i64 c.exp,.str ByteArray.empty]))] [0,1,2,3,4,5,6,7] (by exact rfl) (by exact rfl) (fun rest=>rfl) q58 hp (fun a=>?_) (fun p2 hp2=>?_)
 · refine ⟨?_,?_,?_,?_,?_,?_,?_,?_,trivial⟩
   all_goals exact ta_
 · exact enj (mem':=ChM (ansC c) p2) (by exact rfl) ⟨rfl,p2,hp2,rfl⟩ (ChM_sub (ansC c) p2 _)
theorem t13b {ds:List Deferred} (hm0:m0.length=1) (c:Ch) (p:Pp) (hp:p.Ok):GF ⟨Tryd.prog,95,S0,O0,w0,m0,[],ds⟩ [] (.code r13) (E.Fin Tryd.prog [] 7 (rcvR (ansC c))) ⟨[(2,.ref 7 0)],ChM c p++([[.ref 0 0]]++[[.ref 0 0]])⟩:=by
 have q58:=c58b c ⟨2,c.exp,ByteArray.empty⟩
 unfold Pk.d at q58
 refine tabC 8 94 [(0,86,.ref 0 0),(1,87,.ref 0 0),(2,88,.ref 0 9),(3,89,.ref 0 0),(4,90,.ref 0 0),(5,91,.ref 0 5),(6,92,.d (.int .i64 c.exp)),(7,93,.d (.agg [.int .i64 2,.int .i64 c.exp,.str ByteArray.empty]))] [0,1,2,3,4,5,6,7] (by exact rfl) (by exact rfl) (fun rest=>rfl) q58 hp (fun a=>?_) (fun p2 hp2=>?_)
 · refine ⟨?_,?_,?_,?_,?_,?_,?_,?_,trivial⟩
   all_goals exact ta_
 · exact enj (mem':=ChM (ansC c) p2) (by exact rfl) ⟨rfl,p2,hp2,rfl⟩ (ChM_sub (ansC c) p2 _)
theorem tail13 (hm0:m0.length=1) {c:Ch} {s':GS} (h:At2 c s') {a:Act} {w:World} (hat:At ⟨Tryd.prog,95,S0,O0,w0,m0,[],[]⟩ s' a w):r13.wp Tryd.prog (EndM ⟨Tryd.prog,95,S0,O0,w0,m0,[],[]⟩ [] 7 (rcvR (ansC c))) a w:=by
 obtain ⟨p,hp,h1,h2⟩:=h
 obtain ⟨sl,mem⟩:=s'
 dsimp only at h1 h2
 subst h1
 exact wp_mono (t13a hm0 c p hp a w (At_kp ⟨h2,trivial⟩ hat)) (fun e a' w' ⟨s',hfin,hat'⟩=>.inl ⟨s',hfin,hat'⟩)
theorem tail13b (hm0:m0.length=1) {c:Ch} {p:Pp} (hp:p.Ok) {S1:Reg} {O1:Owns} {w1:World} {m1:List Nat} {mem1:List (List PV)} {D:Nat} {sl:List (Nat×PV)} {a:Act} {w:World} (hsl:sl.lookup 2=some (.ref 7 0)) (henv:Env S0 O0 w0 S1 O1 m1 mem1 w1) (hD1:w0.heap.size≤D) (hD2:D < w1.heap.size) (hD3:w1.heap[D]? = some (.deferred (some []))) (hO:O1 D=none) (hS:∀ i,¬ S1 D i)
 (hat:At ⟨Tryd.prog,95,S1,O1,w1,m0,[],markD D⟩ ⟨sl,ChM c p++([[.ref 0 0]]++[[.ref 0 0]])⟩ a w):r13.wp Tryd.prog (EndM ⟨Tryd.prog,95,S0,O0,w0,m0,[],[]⟩ [] 7 (rcvR (ansC c))) a w:=
 wp_mono (t13b hm0 c p hp a w (At_kp ⟨hsl,trivial⟩ hat)) (fun e a' w' ⟨s',hfin,hat'⟩=>.inr ⟨D,S1,O1,w1,m1,_,s',hfin,hat',henv,hD1,hD2,hD3,hO,hS⟩)
def rcvD (c:Ch) (q:Pk):Ch:=
 if c.nxt≤q.nu∨q.nu < c.exp then c
 else if q.nu=c.exp then dueN c.ear.length (delC c q)
 else if q.nu < c.exp + c.win then (if ∃ x,c.ear[ixE q.nu c.ear]? = some x∧x.nu=q.nu then c else insC c (ixE q.nu c.ear) q)
 else c
open Classical in
theorem ixE_le (n:Int):∀ l:List Pk,ixE n l≤l.length
 | []=>Nat.le_refl _
 | q :: r=>by
  unfold ixE
  split
  · exact Nat.succ_le_succ (ixE_le n r)
  · exact Nat.zero_le _
structure Ch.Rcv (c:Ch):Prop where
 few:c.Few
 del:c.del.length + c.ear.length≤800000
 srt:SortedE c.ear
 bd:BdE c.ear
 exp0:0≤c.exp
 exp1:c.exp≤1000000000
 win0:0≤c.win
 win1:c.win≤1000000
 nxt:c.nxt≤1000000000
set_option maxRecDepth 100000 in
theorem c60g (c:Ch) (x:ByteArray) (h0:deE x=0) (h1:(deP x).kd=1) (hc:c.Rcv):Mt 60 [.ref 0 0,.d (.str x)] c (.tup []) (ansC (rcvD c (deP x))):=by
 intro p hp
 have q63:=c63 x 1 h0
 have q64:=c64 c (deP x) hc.few
 unfold Pk.d at q64
 refine ⟨⟨_,Tryd.func60,rfl,rfl⟩,?_⟩
 refine gcall_marks 1 95 [] [(0,.ref 0 0),(1,.d (.str x))] 7 Tryd.func60 rfl Tryd.ntmps60 (oR rfl) Tryd.results60 rfl rfl (fun S0 O0 w0 m0 hm0=>?_)
 have hm1:m0.length=1:=hm0
 have hr:RW ⟨Tryd.prog,95,S0,O0,w0,m0,[],[]⟩ (Tryd.f60.body.getD .skip) (EndM ⟨Tryd.prog,95,S0,O0,w0,m0,[],[]⟩ [] 7 (rcvR (ansC (rcvD c (deP x))))) ⟨[(0,.ref 0 0),(1,.d (.str x))],ChM c p⟩:=by
  refine Z24 ?_
  repeat' first | refine s_ ?_ | fail
  refine toL ⟨rfl,?_⟩
  refine Z24 ?_
  repeat' first | refine s_ ?_ | refine c_ q63 ?_ | fail
  refine toL ⟨rfl,?_⟩
  refine Z24 ?_
  refine fz true (by exact rfl) ?_ (by rw [hm0];decide) (ChM_refs8 c p)
  repeat' first | refine s_ ?_ | fail
  refine cf (by exact rfl) ?_ (by simp [h1])
  repeat' first | refine s_ ?_ | fail
  refine toL ⟨rfl,?_⟩
  refine rw_seqr (rw_block ?_)
  refine Z24 ?_
  refine kp [(4,.d (.ptr (deP x).d)),(2,.ref 7 0)] ⟨rfl,rfl,trivial⟩ ?_
  unfold Pk.d
  refine Z9 ?_
  iterate 17 refine ov (hc:=?_)
  refine Z7 ?_
  refine toL ⟨rfl,?_⟩
  by_cases hA:c.nxt≤(deP x).nu∨(deP x).nu < c.exp
  · rw [show rcvD c (deP x)=c from if_pos hA]
    refine rwT (by exact rfl) (by rcases hA with h | h<;>simp [h]) ?_
    exact Y10
  have hA1:(deP x).nu < c.nxt:=by omega
  have hA2:c.exp≤(deP x).nu:=by omega
  refine rwF (by exact rfl) (by simp;omega) ?_
  refine Z24 ?_;refine Z10 ?_;refine Z9 ?_
  iterate 8 refine ov (hc:=?_)
  refine Z7 ?_
  refine toL ⟨rfl,?_⟩
  by_cases hB:(deP x).nu=c.exp
  · rw [show rcvD c (deP x)=dueN c.ear.length (delC c (deP x)) by unfold rcvD;rw [if_neg hA,if_pos hB]]
    refine rwT (by exact rfl) (by simp [hB]) ?_
    refine Z24 ?_;refine Z10 ?_
    repeat' first | refine s_ ?_ | fail
    refine (show GF _ _ _ _ ⟨_,ChM c p++[[.ref 0 0]]⟩ from ?_)
    refine cj (by exact rfl) q64 hp (fun p' hp'=>?_)
    repeat' first | refine s_ ?_ | fail
    refine toL ⟨rfl,?_⟩
    refine Z24 ?_
    refine kp [(2,.ref 7 0)] ⟨rfl,trivial⟩ ?_
    repeat' first | refine s_ ?_ | fail
    refine gJ (jn:=7) [0,1,2,3,4,5,6] (by exact rfl) ((c65 (delC c (deP x)) p').j 7) rfl (by decide) (fun b hb=>?_) ?_ rfl ?_ (fun b hb=>by cases hb) (ChM_nref0 _ _ _) ?_
    · have:b < 7:=by
       have h:∀ b ∈ [0,1,2,3,4,5,6],b < 7:=by decide
       exact h b hb
      rw [List.length_append]
      have h7:(ChM (delC c (deP x)) p').length=7:=rfl
      omega
    · rw [ChM_rens];rfl
    · exact ChM_refs (delC c (deP x)) p'
    · rintro q m ⟨rfl,rfl⟩ _
      have h1:=setAll_ChM (delC c (deP x)) (delC c (deP x)) p' p' [[.ref 0 0]] 8
      rw [show ((ChM (delC c (deP x)) p').drop 7).map (PV.rens (renN [0,1,2,3,4,5,6] 8))=[] from rfl,List.append_nil] at h1
      have h2:stJ 7 [0,1,2,3,4,5,6] [(44,.ref 0 0),(2,.ref 7 0)] (ChM (delC c (deP x)) p'++[[.ref 0 0]]) 45 (.fn (.func 71) [] [.ref 7 0]) (ChM (delC c (deP x)) p'++[[.ref 0 0]])=⟨[(45,.fn (.func 71) [] [.ref 8 0]),(44,.ref 0 0),(2,.ref 7 0)],ChM (delC c (deP x)) p'++[[.ref 0 0]]++[[.ref 0 0]]⟩:=by
       refine Z31 ?_
       show setAll (ChM (delC c (deP x)) p'++[[.ref 0 0]]) [0,1,2,3,4,5,6] (((ChM (delC c (deP x)) p').take 7).map (PV.rens (renN [0,1,2,3,4,5,6] 8)))++[[.ref 0 0]]=_
       rw [h1]
      rw [h2]
      repeat' first | refine s_ ?_ | fail
      refine toL ⟨rfl,?_⟩
      refine rw_block ?_
      have hfew:(delC c (deP x)).Few:=delC_few hc.few _ (by have:=hc.del;omega)
      have hdl:(delC c (deP x)).del.length + (delC c (deP x)).ear.length≤900000:=by
       show (c.del++[(deP x).bo]).length + c.ear.length≤900000
       rw [List.length_append]
       have:=hc.del
       simp;omega
      refine rw_rangeX (t1:=2) (b0:=2) (b1:=1) 3 [0,7,8,1,2,3,4,5,6] (fun m=>∃ p2:Pp,p2.Ok∧m=Ch2 (dueN (delC c (deP x)).ear.length (delC c (deP x))) p2) rfl rfl (by decide) (by decide) (Nat.le_of_ble_eq_true rfl) (by decide) (fun b hb=>?_) ?_ ?_ (fun b hb=>?_) ?_ Tryd.func71 rfl rfl (c71x (delC c (deP x)) p' hp' hfew hdl S0 w0) (fun S1 O1 w1 m1 D a mem' hR hl henv hD1 hD2 hD3 hO hS hat=>?_)
      · have h:∀ b ∈ [0,7,8,1,2,3,4,5,6],b < 9:=by decide
        exact h b hb
      · rw [show (Ch2 (delC c (deP x)) p').map (PV.rens fun b=>[0,7,8,1,2,3,4,5,6].getD b 0)=ChA (delC c (deP x)) p' 1 2 3 4 5 6 :: [.ref 0 0] :: [.ref 0 0] :: (ChR (delC c (deP x)) p'++[]).map (PV.rens fun b=>[0,7,8,1,2,3,4,5,6].getD b 0) from rfl,List.append_nil,ChR_rens];rfl
      · show (PV.refsBs 9 (ChA (delC c (deP x)) p' 3 4 5 6 7 8) && (true && (true && (ChR (delC c (deP x)) p'++[]).all (PV.refsBs 9))))=true
        rw [List.append_nil,ChR_refs];rfl
      · have h:∀ b ∈ [1,2,3,4,5,6],1≤b:=by decide
        rw [hm1];exact h b hb
      · show ((true || _) && ((true || _) && ((true || _) && ((true || _) && ((true || _) && ((true || _) && ((true || _) && ((true || _) && ((true || _) && _)))))))))=true
        simp only [Bool.true_or,Bool.true_and];rfl
      · obtain ⟨p2,hp2,rfl⟩:=hR
        rw [show (delC c (deP x)).ear=c.ear from rfl] at hat henv
        generalize dueN c.ear.length (delC c (deP x))=F at hat henv ⊢
        have hset:setAll (ChM (delC c (deP x)) p'++[[PV.ref 0 0]]++[[PV.ref 0 0]]) [0,7,8,1,2,3,4,5,6] (((Ch2 F p2).take 9).map (PV.rens (renN [0,7,8,1,2,3,4,5,6] 9)))++((Ch2 F p2).drop 9).map (PV.rens (renN [0,7,8,1,2,3,4,5,6] 9))=ChM F p2++([[PV.ref 0 0]]++[[PV.ref 0 0]]):=by
         rw [show (Ch2 F p2).take 9=Ch2 F p2 from rfl,show (Ch2 F p2).drop 9=[] from rfl,List.map_nil,List.append_nil]
         rw [show (Ch2 F p2).map (PV.rens (renN [0,7,8,1,2,3,4,5,6] 9))=ChA F p2 1 2 3 4 5 6 :: [.ref 0 0] :: [.ref 0 0] :: (ChR F p2++[]).map (PV.rens (renN [0,7,8,1,2,3,4,5,6] 9)) from rfl,List.append_nil,ChR_rens];rfl
        have hset':setAll (ChM (delC c (deP x)) p'++[[PV.ref 0 0]]++[[PV.ref 0 0]]) [0,7,8,1,2,3,4,5,6] (((Ch2 F p2).take [0,7,8,1,2,3,4,5,6].length).map (PV.rens (renN [0,7,8,1,2,3,4,5,6] (ChM (delC c (deP x)) p'++[[PV.ref 0 0]]++[[PV.ref 0 0]]).length)))++((Ch2 F p2).drop [0,7,8,1,2,3,4,5,6].length).map (PV.rens (renN [0,7,8,1,2,3,4,5,6] (ChM (delC c (deP x)) p'++[[PV.ref 0 0]]++[[PV.ref 0 0]]).length))=ChM F p2++([[PV.ref 0 0]]++[[PV.ref 0 0]]):=hset
        rw [hset'] at hat henv
        exact tail13b hm1 hp2 rfl henv hD1 hD2 hD3 hO hS hat
  refine rwF (by exact rfl) (by simp [hB]) ?_
  refine Z24 ?_;refine Z10 ?_;refine Z9 ?_
  iterate 13 refine ov (hc:=?_)
  refine Z7 ?_
  refine toL ⟨rfl,?_⟩
  have hw:IntKind.i64.wrap (c.exp + c.win)=c.exp + c.win:=by
   have:=hc.exp0;have:=hc.exp1;have:=hc.win0;have:=hc.win1
   exact Y1
  by_cases hC:(deP x).nu < c.exp + c.win
  · refine rwT (by exact rfl) (by simp [hw,hC]) ?_
    have hbs:=hc.bd
    have hn:0≤(deP x).nu∧(deP x).nu≤1000000000:=by have:=hc.exp0;have:=hc.nxt;omega
    have q66:=c66 c.ear p.e1 p.e2 (deP x).nu hp.e1 hp.e2 hc.srt hbs hn hc.few.ear
    refine Z24 ?_;refine Z10 ?_
    refine ow [6] [ChM c p++[[.ref 0 0]],ChM c p++[[.ref 0 0]]] (hc:=?_)
    refine iw (ob:=[]) (p:=.ref 0 0) (h:=fun rest X hX=>by (simp only [List.mem_cons,List.not_mem_nil,or_false,or_self] at hX;subst hX;rfl)) (hc:=?_)
    iterate 2 refine aw (hc:=?_)
    refine vw 0 (hc:=?_)
    iterate 2 refine aw (hc:=?_)
    refine oPutW 0 (t:=70) (p:=.tup [.d (.int .i64 (ixE (deP x).nu c.ear:Int)),.d (.bool (decide (∃ q,c.ear[ixE (deP x).nu c.ear]? = some q∧q.nu=(deP x).nu)))]) (by exact rfl) (by exact rfl) (by exact rfl) rfl (by rfl) (by rfl) rfl rfl ?_ (fun rest Q' hg=>?_)
    rotate_left
    · refine gJ (jn:=1) [6] (by exact rfl) (q66.j 1) rfl (by decide) (fun b hb=>?_) ?_ rfl ?_ (fun b hb=>by cases hb) (ChM_nref0 _ _ _) ?_
      · rw [List.mem_singleton] at hb;subst hb
        exact Y11
      · show [_]=_
        exact Y3
      · show (_ && _)=true
        rw [refs_flat];rfl
      · rintro q m ⟨rfl,rfl⟩ _
        have e1:∀ f:Nat→Nat,(List.take [6].length [flat (p.e1++pD c.ear++p.e2)]).map (PV.rens f)=[flat (p.e1++pD c.ear++p.e2)]:=fun f=>by
         show [PV.rens f (flat _)]=_
         rw [rens_flat]
        unfold stJ
        rw [e1,show List.drop 1 [6]=[] from rfl,sansL_nil]
        exact hg
    iterate 5 refine aw (hc:=?_)
    refine Z25 ?_
    refine toL ⟨rfl,?_⟩
    have hrd:rcvD c (deP x)=if ∃ y,c.ear[ixE (deP x).nu c.ear]? = some y∧y.nu=(deP x).nu then c else insC c (ixE (deP x).nu c.ear) (deP x):=by unfold rcvD;rw [if_neg hA,if_neg hB,if_pos hC]
    rw [hrd]
    refine Z24 ?_
    refine kp [(8,.d (.bool (decide (∃ q,c.ear[ixE (deP x).nu c.ear]? = some q∧q.nu=(deP x).nu)))),(7,.d (.int .i64 (ixE (deP x).nu c.ear:Int))),(4,.d (.ptr (.agg [.int .i64 (deP x).kd,.int .i64 (deP x).nu,.str (deP x).bo]))),(2,.ref 7 0)] ⟨rfl,rfl,rfl,rfl,trivial⟩ ?_
    repeat' first | refine s_ ?_ | fail
    refine toL ⟨rfl,?_⟩
    by_cases hT:∃ q,c.ear[ixE (deP x).nu c.ear]? = some q∧q.nu=(deP x).nu
    · rw [if_pos hT]
      refine rwF (by exact rfl) (by simp [hT]) ?_
      exact Y10
    · rw [if_neg hT]
      refine rwT (by exact rfl) (by simp [hT]) ?_
      have hg:=g12 hm1 (S0:=S0) (O0:=O0) (w0:=w0) c p hp hc.few (deP x) (ixE (deP x).nu c.ear) (ixE_le _ _)
      intro a w hat
      exact rw_gf hg (fun s' hT' a w hat=>tail13 hm1 hT' hat) a w (At_kp ⟨rfl,rfl,rfl,trivial⟩ hat)
  · rw [show rcvD c (deP x)=c by unfold rcvD;rw [if_neg hA,if_neg hB,if_neg hC]]
    refine rwF (by exact rfl) (by simp [hw];omega) ?_
    exact Y10
 exact hr
end
section
def rcvC (c:Ch) (x:ByteArray):Ch:=if (deE x == 0 && (deP x).kd == 1)=true then ansC (rcvD c (deP x)) else c
theorem c60 (c:Ch) (x:ByteArray) (hc:c.Rcv):MtL 60 [.ref 0 0,.d (.str x)] c (.tup []) (rcvC c x):=by
 by_cases hb:(deE x == 0 && (deP x).kd == 1)=true
 · rw [show rcvC c x=ansC (rcvD c (deP x)) from if_pos hb]
   have h:=hb
   rw [Bool.and_eq_true,beq_iff_eq,beq_iff_eq] at h
   exact (c60g c x h.1 h.2 hc).L
 rw [show rcvC c x=c from if_neg hb]
 have q63:=c63L x 1
 rw [show (deE x == 0 && (deP x).kd == 1)=false by simpa using hb] at q63
 unfold Pk.d at q63
 intro p hp
 refine glB 1 7 Tryd.func60 Tryd.ntmps60 Tryd.results60 (fun S0 O0 w0 m0 hL hm0=>?_)
 repeat' first | refine s_ ?_ | refine clL (args:=[.str x,.int .i64 1]) hL (by exact rfl) q63 ?_ | fail
 refine fz true (by exact rfl) ?_ (by rw [hm0];decide) (ChM_refs8 c p)
 repeat' first | refine s_ ?_ | fail
 refine cd (by exact rfl) (fun _=>?_) (fun hb'=>by simp at hb')
 repeat' first | refine s_ ?_ | fail
 exact enj (mem':=ChM c p) (by exact rfl) ⟨rfl,p,hp,rfl⟩ (ChM_sub c p [_])
end
section
theorem cjL {n:Nat} {S0:Reg} {O0:Owns} {w0:World} {m0 Bs:List Nat} {ds:List Deferred} {fr:List Fr} {Q:Exit→GS→Prop} {ops:Array Oper} {i:Nat} {l:List Nat} {sl:List (Nat×PV)} {extra:List (List PV)} {t:Nat} {f:FuncId} {args:List PV} {c c':Ch} {p:Pp} {r:PV} (h:cms ops.toList n i sl=some (t,f,args)) (hL:Lad S0 w0) (hc:MtL f args c r c') (hp:p.Ok)
 (hg:∀ p',p'.Ok→GF ⟨Tryd.prog,n,S0,O0,w0,m0,Bs,ds⟩ fr (.ops ops l) Q ⟨(t,r) :: sansL [1,2,3,4,5,6] sl,ChM c' p'++extra⟩) (hm0:m0.length≤1:=by omega) (hargs:args=PV.rens (fun b=>[0,1,2,3,4,5,6].getD b 0) args:=by rfl) (hra:PV.refsBs 7 args=true:=by rfl) (hr:r.ren (renN [0,1,2,3,4,5,6] (ChM c p++extra).length)=r:=by rfl) (hx:exB [1,2,3,4,5,6] extra=true:=by rfl):GF ⟨Tryd.prog,n,S0,O0,w0,m0,Bs,ds⟩ fr (.ops ops (i :: l)) Q ⟨sl,ChM c p++extra⟩:=by
 refine gJX (jn:=1) [0,1,2,3,4,5,6] h (hc p hp).1 ((hc p hp).2 _ _ hL) hargs (by decide) (fun b hb=>?_) ?_ hra ?_ (fun b hb=>?_) (ChM_nref c p extra hx) ?_
 · have:b < 7:=by
    have h:∀ b ∈ [0,1,2,3,4,5,6],b < 7:=by decide
    exact h b hb
   show b < (ChM c p++extra).length
   rw [List.length_append]
   have h7:(ChM c p).length=7:=rfl
   omega
 · rw [ChM_rens];rfl
 · show (ChM c p).all (PV.refsBs 7)=true
   exact Y6
 · have h1:1≤b:=by
    have h:∀ b ∈ [1,2,3,4,5,6],1≤b:=by decide
    exact h b hb
   exact Nat.le_trans hm0 h1
 · rintro q m ⟨rfl,p',hp',rfl⟩ _
   have h1:=setAll_ChM c c' p p' extra (ChM c p++extra).length
   have h2:stJ 1 [0,1,2,3,4,5,6] sl (ChM c p++extra) t q (ChM c' p')=⟨(t,q) :: sansL [1,2,3,4,5,6] sl,ChM c' p'++extra⟩:=by
    unfold stJ
    rw [hr]
    exact congrArg (GS.mk _) h1
   rw [h2]
   exact hg p' hp'
theorem cj5L {n:Nat} {S0:Reg} {O0:Owns} {w0:World} {m0 Bs:List Nat} {ds:List Deferred} {fr:List Fr} {Q:Exit→GS→Prop} {ops:Array Oper} {i:Nat} {l:List Nat} {sl:List (Nat×PV)} {x1 x2 x3 x4 x5:List PV} {ex:List (List PV)} {t:Nat} {f:FuncId} {args:List PV} {c c':Ch} {p:Pp} {r:PV} (h:cms ops.toList n i sl=some (t,f,args)) (hL:Lad S0 w0) (hc:MtL f args c r c') (hp:p.Ok)
 (hg:∀ p',p'.Ok→GF ⟨Tryd.prog,n,S0,O0,w0,m0,Bs,ds⟩ fr (.ops ops l) Q ⟨(t,r) :: sansL [6,7,8,9,10,11] sl,ChA c' p' 6 7 8 9 10 11 :: x1 :: x2 :: x3 :: x4 :: x5 :: (ChR c' p'++ex)⟩) (hm0:m0.length≤6:=by omega) (hargs:args=PV.rens (fun b=>[0,6,7,8,9,10,11].getD b 0) args:=by rfl) (hra:PV.refsBs 7 args=true:=by rfl) (hr:r.ren (renN [0,6,7,8,9,10,11] (ChA c p 6 7 8 9 10 11 :: x1 :: x2 :: x3 :: x4 :: x5 :: (ChR c p++ex)).length)=r:=by rfl) (hx:exB [6,7,8,9,10,11] [x1,x2,x3,x4,x5]=true:=by rfl) (hex:exB [6,7,8,9,10,11] ex=true:=by rfl):GF ⟨Tryd.prog,n,S0,O0,w0,m0,Bs,ds⟩ fr (.ops ops (i :: l)) Q ⟨sl,ChA c p 6 7 8 9 10 11 :: x1 :: x2 :: x3 :: x4 :: x5 :: (ChR c p++ex)⟩:=by
 refine gJX (jn:=1) [0,6,7,8,9,10,11] h (hc p hp).1 ((hc p hp).2 _ _ hL) hargs (by decide) (fun b hb=>?_) ?_ hra (ChM_refs c p) (fun b hb=>?_) ?_ ?_
 · have:b < 12:=by
    have h:∀ b ∈ [0,6,7,8,9,10,11],b < 12:=by decide
    exact h b hb
   have h7:(ChA c p 6 7 8 9 10 11 :: x1 :: x2 :: x3 :: x4 :: x5 :: (ChR c p++ex)).length=12 + ex.length:=by simp [ChR];omega
   omega
 · rw [ChM_rens];rfl
 · have h1:6≤b:=by
    have h:∀ b ∈ [6,7,8,9,10,11],6≤b:=by decide
    exact h b hb
   exact Nat.le_trans hm0 h1
 · have h1:=nrefLM_ex [6,7,8,9,10,11] [0,6,7,8,9,10,11] ex 12 hex
   have h2:=nrefLM_ex [6,7,8,9,10,11] [0,6,7,8,9,10,11] [x1,x2,x3,x4,x5] 1 hx
   have h3:=nrefLM_app [6,7,8,9,10,11] [0,6,7,8,9,10,11] ([x1,x2,x3,x4,x5]) (ChR c p++ex) 1 h2 (nrefLM_app [6,7,8,9,10,11] [0,6,7,8,9,10,11] (ChR c p) ex 6 (nrefLM_ex [6,7,8,9,10,11] [0,6,7,8,9,10,11] (ChR c p) 6 (ChR_exB _ c p)) h1)
   show ((true || _) && _)=true
   rw [Bool.true_or,Bool.true_and]
   exact h3
 · rintro q m ⟨rfl,p',hp',rfl⟩ _
   have h2:stJ 1 [0,6,7,8,9,10,11] sl (ChA c p 6 7 8 9 10 11 :: x1 :: x2 :: x3 :: x4 :: x5 :: (ChR c p++ex)) t q (ChM c' p')=⟨(t,q) :: sansL [6,7,8,9,10,11] sl,ChA c' p' 6 7 8 9 10 11 :: x1 :: x2 :: x3 :: x4 :: x5 :: (ChR c' p'++ex)⟩:=by
    unfold stJ
    rw [hr]
    refine Z31 ?_
    rw [show (ChM c' p').take (List.length [0,6,7,8,9,10,11])=ChM c' p' from rfl,show (ChM c' p').drop (List.length [0,6,7,8,9,10,11])=[] from rfl,ChM_rens,List.map_nil,List.append_nil]
    rfl
   rw [h2]
   exact hg p' hp'
theorem tab5L (X tX:Nat) (es es2:List (Nat×Nat×PV)) (nums:List Nat) {n:Nat} {S0:Reg} {O0:Owns} {w0:World} {m0 Bs:List Nat} {ds:List Deferred} {fr:List Fr} {Q:Exit→GS→Prop} {id:Nat} {ops:Array Oper} {sl base:List (Nat×PV)} {ds':List Nat} {x1 x2 x3 x4 x5:List PV} {ex:List (List PV)} {f:FuncId} {args:List PV} {c c':Ch} {p:Pp} {r:PV} {preX:List (Nat×PV)}
 (hb:baseK ops.toList sl=some (ds',base)) (hsX:pick (es++es2) (dsK [] ops X)++base=preX) (h:∀ rest,cms ops.toList n X (preX++rest)=some (tX,f,args)) (hL:Lad S0 w0) (hc:MtL f args c r c') (hp:p.Ok)
 (hst:∀ a:{ q:Pp // q.Ok },eachN (TabOp ⟨Tryd.prog,n,S0,O0,w0,m0,Bs,ds⟩ ops [] base (es++(X,tX,r) :: es2) X ops.size (ChA c p 6 7 8 9 10 11 :: x1 :: x2 :: x3 :: x4 :: x5 :: (ChR c p++ex)) (ChA c' a.1 6 7 8 9 10 11 :: x1 :: x2 :: x3 :: x4 :: x5 :: (ChR c' a.1++ex)) (ChA c' a.1 6 7 8 9 10 11 :: x1 :: x2 :: x3 :: x4 :: x5 :: (ChR c' a.1++ex))) nums)
 (hg:∀ p',p'.Ok→GF ⟨Tryd.prog,n,S0,O0,w0,m0,Bs,ds⟩ fr (.leave .normal) Q ⟨((es++(X,tX,r) :: es2).filter fun (x:Nat×Nat×PV)=>(([]:List (Nat×Nat)).lookup x.1).isNone).map (·.2)++base,ChA c' p' 6 7 8 9 10 11 :: x1 :: x2 :: x3 :: x4 :: x5 :: (ChR c' p'++ex)⟩)
 (hdep:((List.range ops.size).all fun i=>(depsOf ops i).all fun d=>Nat.blt d i)=true:=by kernel_rfl) (hXn:Nat.blt X ops.size=true:=by rfl) (hnums:((List.range ops.size).all fun i=>Nat.beq i X || memN i nums)=true:=by kernel_rfl)
 (hall:((es++es2).map (fun (x:Nat×Nat×PV)=>x.1)).all (fun i=>!Nat.beq i X)=true:=by rfl) (hnd:nodupB (tX :: (es++es2).map (fun (x:Nat×Nat×PV)=>x.2.1))=true:=by rfl) (hbase:(base.map (fun (x:Nat×PV)=>x.1)).all (fun t=>!(tX :: (es++es2).map (fun (x:Nat×Nat×PV)=>x.2.1)).contains t)=true:=by rfl) (hfi:((es++es2).map (fun (x:Nat×Nat×PV)=>x.1)).all (fun i=>Nat.blt i ops.size)=true:=by rfl)
 (hgd:(es++es2).all (fun (e:Nat×Nat×PV)=>nrefL [6,7,8,9,10,11] e.2.2 || (match ([]:List (Nat×Nat)).lookup e.1 with | some m=>Nat.beq m X | none=>false))=true:=by rfl) (hgb:base.all (fun (x:Nat×PV)=>nrefL [6,7,8,9,10,11] x.2)=true:=by rfl)
 (hm0:m0.length≤1:=by omega) (hargs:args=PV.rens (fun b=>[0,6,7,8,9,10,11].getD b 0) args:=by rfl) (hra:PV.refsBs 7 args=true:=by rfl) (hr:r.ren (renN [0,6,7,8,9,10,11] (ChA c p 6 7 8 9 10 11 :: x1 :: x2 :: x3 :: x4 :: x5 :: (ChR c p++ex)).length)=r:=by rfl) (hx:exB [6,7,8,9,10,11] [x1,x2,x3,x4,x5]=true:=by rfl) (hex:exB [6,7,8,9,10,11] ex=true:=by rfl):GF ⟨Tryd.prog,n,S0,O0,w0,m0,Bs,ds⟩ fr (.code (.region id ops true)) Q ⟨sl,ChA c p 6 7 8 9 10 11 :: x1 :: x2 :: x3 :: x4 :: x5 :: (ChR c p++ex)⟩:=
 gTab (A:={ q:Pp // q.Ok }) X ops.size [] (nrefL [6,7,8,9,10,11]) es es2 tX (fun _=>r) (fun a=>ChA c' a.1 6 7 8 9 10 11 :: x1 :: x2 :: x3 :: x4 :: x5 :: (ChR c' a.1++ex)) (fun a=>ChA c' a.1 6 7 8 9 10 11 :: x1 :: x2 :: x3 :: x4 :: x5 :: (ChR c' a.1++ex)) ⟨p0,p0_ok⟩ nums hb mixed hdep hXn hnums hall hnd hbase rfl hfi hgd hgb hsX
  (fun rest Q' hQ=>cj5L (h rest) hL hc hp (fun p' hp'=>hQ ⟨p',hp'⟩) (by omega) hargs hra hr hx hex) hst (by rw [Nat.ble_eq];exact Nat.le_refl _) (by rw [beq_yes];rfl) (fun _ _=>rfl) (fun a=>hg a.1 a.2)
theorem c45t (c:Ch) (k at_:Int) (i:Nat) {x:ByteArray} (hx:c.tos[i]? = some x) (hc:c.Few) (hr:c.Rcv):MtL 45 [.ref 0 0,.d (acD k false (i:Int) at_)] c (.d (.int .i64 0)) (rcvC { c with tos:=c.tos.eraseIdx i } x):=by
 intro p hp
 have hi:i < c.tos.length:=(lG hx)
 have q44:=c44tf c k (i:Int) at_
 have q46:=c46t c k at_ i hi hc.tos
 have hf2:Ch.Few { c with tos:=c.tos.eraseIdx i }:={ hc with tos:=by show (c.tos.eraseIdx i).length≤_;rw [List.length_eraseIdx];have:=hc.tos;split<;>omega }
 have q60:=c60 { c with tos:=c.tos.eraseIdx i } x { hr with few:=hf2 }
 unfold acD at q44 q46 ⊢
 refine glB 1 7 Tryd.func45 Tryd.ntmps45 Tryd.results45 (fun S0 O0 w0 m0 hL hm0=>?_)
 iterate 4 refine s_ ?_
 refine fz true (by exact rfl) ?_ (by rw [hm0];decide) (ChM_refs c p)
 repeat' first | refine s_ ?_ | fail
 refine Z20 ?_;refine Z14 ?_;refine Z9 ?_;refine Z37 ?_;refine Z30 ?_;refine Z37 ?_;refine Z37 ?_;refine Z19 ?_
 refine oqw (hs:=rfl) (hj:=rfl) (h:=fun _=>rfl) (p:=.d (.str x)) (hq:=fun rest _ ht=>Q_rowLeaf (pre:=p.t1) (xs:=sD c.tos) (post:=p.t2) (i:=i) (f:=0) (k:=1) rfl rfl (by rw [rlo_ne (sD_ne hi)];rfl) (sD_get hx) rfl (row_k hp.t1 (sD_k _) hp.t2) u9 rfl rfl ht) (hc:=?_)
 refine Z6 ?_;refine Z7 ?_
 rw [List.append_nil]
 refine Z17 ?_
 refine kp [(5,.d (.str x)),(0,.ref 0 0),(3,.d (.ptr (.agg [.int .i64 k,.bool false,.int .i64 (i:Int),.int .i64 at_]))),(4,.d (.int .i64 0))] ⟨rfl,rfl,rfl,rfl,trivial⟩ ?_
 repeat' first | refine s_ ?_ | fail
 refine Z14 ?_
 refine cj (by exact rfl) q46 hp (fun p2 hp2=>?_)
 repeat' first | refine s_ ?_ | fail
 refine Z1 ?_
 repeat' first | refine s_ ?_ | fail
 refine cjL (by exact rfl) hL q60 hp2 (fun p3 hp3=>?_)
 repeat' first | refine s_ ?_ | fail
 exact enj (mem':=ChM (rcvC { c with tos:=c.tos.eraseIdx i } x) p3) (by exact rfl) ⟨rfl,p3,hp3,rfl⟩ (ChM_sub (rcvC { c with tos:=c.tos.eraseIdx i } x) p3 [])
theorem c45b (c:Ch) (k at_:Int) (i:Nat) {x:ByteArray} (hx:c.bak[i]? = some x) (hc:c.Few) (hw:c.win≤1000000) (hb:0≤c.base) (he:c.exp≤c.base + (c.una.length:Int)):MtL 45 [.ref 0 0,.d (acD k true (i:Int) at_)] c (.d (.int .i64 0)) (ackC { c with bak:=c.bak.eraseIdx i } x):=by
 intro p hp
 have hi:i < c.bak.length:=(lG hx)
 have q44:=c44bf c k (i:Int) at_
 have q46:=c46b c k at_ i hi hc.bak
 have hf2:Ch.Few { c with bak:=c.bak.eraseIdx i }:={ hc with bak:=by show (c.bak.eraseIdx i).length≤_;rw [List.length_eraseIdx];have:=hc.bak;split<;>omega }
 have q60:=c59 { c with bak:=c.bak.eraseIdx i } x hf2 hw hb he
 unfold acD at q44 q46 ⊢
 refine glB 1 7 Tryd.func45 Tryd.ntmps45 Tryd.results45 (fun S0 O0 w0 m0 hL hm0=>?_)
 iterate 4 refine s_ ?_
 refine fz true (by exact rfl) ?_ (by rw [hm0];decide) (ChM_refs c p)
 repeat' first | refine s_ ?_ | fail
 refine kp [(0,.ref 0 0),(3,.d (.ptr (.agg [.int .i64 k,.bool true,.int .i64 (i:Int),.int .i64 at_]))),(4,.d (.int .i64 0))] ⟨rfl,rfl,rfl,trivial⟩ ?_
 refine Z14 ?_;refine Z9 ?_;refine Z37 ?_;refine Z30 ?_;refine Z37 ?_;refine Z37 ?_
 refine oqw (hs:=rfl) (hj:=rfl) (h:=fun _=>rfl) (hq:=fun rest _ ht=>Q_rowIndex (n:=(sD c.bak).length) rfl rfl (by omega) (by rw [sD_len];simpa using hi) u35 sz9 ht) (hc:=?_)
 refine oqw (hs:=rfl) (hj:=rfl) (h:=fun _=>rfl) (p:=.d (.str x)) (hq:=fun rest _ ht=>Q_rowLeaf (pre:=p.b1) (xs:=sD c.bak) (post:=p.b2) (i:=i) (f:=0) (k:=1) rfl rfl (by rw [rlo_ne (sD_ne hi)];rfl) (sD_get hx) rfl (row_k hp.b1 (sD_k _) hp.b2) u9 rfl rfl ht) (hc:=?_)
 refine Z6 ?_;refine Z7 ?_
 rw [List.append_nil]
 refine Z17 ?_
 refine kp [(5,.d (.str x)),(0,.ref 0 0),(3,.d (.ptr (.agg [.int .i64 k,.bool true,.int .i64 (i:Int),.int .i64 at_]))),(4,.d (.int .i64 0))] ⟨rfl,rfl,rfl,rfl,trivial⟩ ?_
 repeat' first | refine s_ ?_ | fail
 refine Z14 ?_
 refine cj (by exact rfl) q46 hp (fun p2 hp2=>?_)
 repeat' first | refine s_ ?_ | fail
 refine Z16 ?_
 repeat' first | refine s_ ?_ | fail
 refine cjL (by exact rfl) hL q60 hp2 (fun p3 hp3=>?_)
 repeat' first | refine s_ ?_ | fail
 exact enj (mem':=ChM (ackC { c with bak:=c.bak.eraseIdx i } x) p3) (by exact rfl) ⟨rfl,p3,hp3,rfl⟩ (ChM_sub (ackC { c with bak:=c.bak.eraseIdx i } x) p3 [])
end
section
theorem any_of {α:Type} {p:α→Bool} {xs:List α} {z:Nat} {x:α} (hx:xs[z]? = some x) (hb:p x=true):xs.any p=true:=List.any_eq_true.2 ⟨x,mG hx,hb⟩
theorem any_no {α:Type} {p:α→Bool} {xs:List α} (h:∀ i,i < xs.length→∀ y,xs[i]? = some y→p y=false):xs.any p=false:=by
 rw [List.any_eq_false]
 intro x hx
 obtain ⟨i,hi⟩:=List.getElem?_of_mem hx
 rw [h i (lG hi) x hi];decide
theorem c39 (l:List ByteArray) (m:Int) (hl:l.length≤140737488355328):Pf Tryd.prog 39 [.sl (l.map D.str),.int .i64 m] (.d (.bool (!l.any (lngP m)))):=by
 refine pfb Tryd.func39 Tryd.ntmps39 Tryd.results39 (fun S0 O0 w0 m0 hm0=>?_)
 repeat' first | refine s_ ?_ | fail
 have hlen:(l.map D.str).length=l.length:=List.length_map ..
 refine gLo (fun z:Nat=>⟨[(0,.d (.sl (l.map D.str))),(1,.d (.int .i64 m)),(5,.d (.int .i64 (z:Int)))],[]⟩) (fun z=>l.length - z) (fun z=>∀ i,i < z→∀ y,l[i]? = some y→lngP m y=false) 0 (fun i hi=>absurd hi (Nat.not_lt_zero _)) le_of (fun z hz Q' hn he hr hp=>?_)
 repeat' first | refine s_ ?_ | fail
 refine d_ (fun hb=>?_) (fun hb=>?_)
 · have hlt:z < l.length:=by have:=oR hb;omega
   obtain ⟨x,hgx⟩:∃ x,l[z]? = some x:=⟨_,gE hlt⟩
   repeat' first | refine s_ ?_ | fail
   refine el (by exact rfl) (str_get hgx) ?_ (by omega)
   repeat' first | refine s_ ?_ | fail
   by_cases hx:lngP m x=true
   · refine ct (by exact rfl) ?_ hx
     repeat' first | refine s_ ?_ | fail
     refine Z28 ?_
     repeat' first | refine s_ ?_ | fail
     exact en (by exact rfl) (by rw [any_of hgx hx];rfl)
   · refine cf (by exact rfl) ?_ (eq_false_of_ne_true hx)
     repeat' first | refine s_ ?_ | fail
     rw [show IntKind.i64.wrap ((z:Int) + 1)=((z + 1:Nat):Int) by rw [wrap_i64 (by omega) (by omega)];rfl]
     exact Y7
 · have hlt:l.length≤z:=by have:=of_decide_eq_false hb;omega
   repeat' first | refine s_ ?_ | fail
   refine Z15 ?_
   repeat' first | refine s_ ?_ | fail
   exact en (by exact rfl) (by rw [any_no (p:=lngP m) (xs:=l) (fun i hi y hy=>hz i (by omega) y hy)];rfl)
def fewB (l:List ByteArray) (n:Int):Bool:=!(decide ((l.length:Int) > n) && (decide ((l.length:Int)≤200) || decide ((l.length:Int) > 202))) && !l.any (lngP 250)
theorem c26 (l:List ByteArray) (n:Int) (hl:l.length≤140737488355328):Pf Tryd.prog 26 [.sl (l.map D.str),.int .i64 n] (.d (.bool (fewB l n))):=by
 have hlen:(l.map D.str).length=l.length:=List.length_map ..
 refine pfb Tryd.func26 Tryd.ntmps26 Tryd.results26 (fun S0 O0 w0 m0 hm0=>?_)
 repeat' first | refine s_ ?_ | fail
 refine d_ (fun hb=>?_) (fun hb=>?_)
 · repeat' first | refine s_ ?_ | fail
   rw [hlen] at hb
   exact en (by exact rfl) (by unfold fewB;rw [show (decide ((l.length:Int) > n) && (decide ((l.length:Int)≤200) || decide ((l.length:Int) > 202)))=true from hb];rfl)
 rw [hlen] at hb
 have hb1:(decide ((l.length:Int) > n) && (decide ((l.length:Int)≤200) || decide ((l.length:Int) > 202)))=false:=hb
 unfold fewB
 rw [hb1]
 repeat' first | refine s_ ?_ | fail
 refine gLo (fun z:Nat=>⟨[(0,.d (.sl (l.map D.str))),(5,.d (.int .i64 (z:Int)))],[]⟩) (fun z=>l.length - z) (fun z=>∀ i,i < z→∀ y,l[i]? = some y→lngP 250 y=false) 0 (fun i hi=>absurd hi (Nat.not_lt_zero _)) le_of (fun z hz Q' hn he hr hp=>?_)
 repeat' first | refine s_ ?_ | fail
 refine d_ (fun hb=>?_) (fun hb=>?_)
 · have hlt:z < l.length:=by have:=oR hb;omega
   obtain ⟨x,hgx⟩:∃ x,l[z]? = some x:=⟨_,gE hlt⟩
   repeat' first | refine s_ ?_ | fail
   refine el (by exact rfl) (str_get hgx) ?_ (by omega)
   repeat' first | refine s_ ?_ | fail
   by_cases hx:lngP 250 x=true
   · refine ct (by exact rfl) ?_ hx
     repeat' first | refine s_ ?_ | fail
     refine Z28 ?_
     repeat' first | refine s_ ?_ | fail
     exact en (by exact rfl) (by rw [any_of hgx hx];rfl)
   · refine cf (by exact rfl) ?_ (eq_false_of_ne_true hx)
     repeat' first | refine s_ ?_ | fail
     rw [show IntKind.i64.wrap ((z:Int) + 1)=((z + 1:Nat):Int) by rw [wrap_i64 (by omega) (by omega)];rfl]
     exact Y7
 · have hlt:l.length≤z:=by have:=of_decide_eq_false hb;omega
   repeat' first | refine s_ ?_ | fail
   refine Z15 ?_
   repeat' first | refine s_ ?_ | fail
   exact en (by exact rfl) (by rw [any_no (p:=lngP 250) (xs:=l) (fun i hi y hy=>hz i (by omega) y hy)];rfl)
theorem c32 (a b:List ByteArray) (ha:a.length≤140737488355328) (hb0:b.length≤140737488355328):Pf Tryd.prog 32 [.sl (a.map D.str),.sl (b.map D.str)] (.d (.bool (decide (a=b)))):=by
 have hlena:(a.map D.str).length=a.length:=List.length_map ..
 have hlenb:(b.map D.str).length=b.length:=List.length_map ..
 refine pfb Tryd.func32 Tryd.ntmps32 Tryd.results32 (fun S0 O0 w0 m0 hm0=>?_)
 repeat' first | refine s_ ?_ | fail
 refine d_ (fun hb=>?_) (fun hb=>?_)
 · repeat' first | refine s_ ?_ | fail
   have hne:a ≠ b:=by
    rintro rfl
    simp at hb
   exact en (by exact rfl) (by rw [decide_eq_false hne])
 have hleq:a.length=b.length:=by
  rw [hlena,hlenb] at hb
  have h1:((a.length:Int) == (b.length:Int))=true:=by simpa [bne] using hb
  have:=eq_of_beq h1
  omega
 repeat' first | refine s_ ?_ | fail
 refine gLo (fun z:Nat=>⟨[(0,.d (.sl (a.map D.str))),(1,.d (.sl (b.map D.str))),(5,.d (.int .i64 (z:Int)))],[]⟩) (fun z=>a.length - z) (fun z=>∀ i,i < z→a[i]? = b[i]?) 0 (fun i hi=>absurd hi (Nat.not_lt_zero _)) le_of (fun z hz Q' hn he hr hp=>?_)
 repeat' first | refine s_ ?_ | fail
 refine d_ (fun hb=>?_) (fun hb=>?_)
 · have hlt:z < a.length:=by have:=oR hb;omega
   obtain ⟨x,hgx⟩:∃ x,a[z]? = some x:=⟨_,gE hlt⟩
   obtain ⟨y,hgy⟩:∃ y,b[z]? = some y:=⟨_,gE (by omega)⟩
   repeat' first | refine s_ ?_ | fail
   refine Z9 ?_;refine Z37 ?_
   refine oi (hd:=str_get hgx) (hc:=?_)
   refine Z37 ?_;refine Z6 ?_
   refine oi (hd:=str_get hgy) (hc:=?_)
   refine Z37 ?_;refine Z7 ?_
   repeat' first | refine s_ ?_ | fail
   by_cases hxy:x=y
   · subst hxy
     refine cf (by exact rfl) ?_ (by simp)
     repeat' first | refine s_ ?_ | fail
     rw [show IntKind.i64.wrap ((z:Int) + 1)=((z + 1:Nat):Int) by rw [wrap_i64 (by omega) (by omega)];rfl]
     refine toL (hn _ (z + 1) (fun i hi=>?_) (by omega) le_of)
     by_cases hiz:i=z
     · subst hiz;rw [hgx,hgy]
     · exact hz i (by omega)
   · refine ct (by exact rfl) ?_ (by simp [hxy])
     repeat' first | refine s_ ?_ | fail
     refine Z28 ?_
     repeat' first | refine s_ ?_ | fail
     have hne:a ≠ b:=by
      rintro rfl
      rw [hgx] at hgy;injection hgy with hgy;exact hxy hgy
     exact en (by exact rfl) (by rw [decide_eq_false hne])
 · have hlt:a.length≤z:=by have:=of_decide_eq_false hb;omega
   repeat' first | refine s_ ?_ | fail
   refine Z15 ?_
   repeat' first | refine s_ ?_ | fail
   have heq:a=b:=List.ext_getElem? fun i=>by
    by_cases hi:i < z
    · exact hz i hi
    · rw [List.getElem?_eq_none (by omega),List.getElem?_eq_none (by omega)]
   exact en (by exact rfl) (by rw [decide_eq_true heq])
end
section
def chr1 (c:Ch):Bool:=decide (c.win < 1) || decide (c.win > 16) || decide (c.base < 0) || decide (c.nxt < c.base) || decide (c.nxt > 10000) || IntKind.i64.wrap (c.nxt - c.base) != (c.una.length:Int) || decide ((c.una.length:Int) > c.win)
def chr2 (c:Ch):Bool:=(decide ((c.wai.length:Int) > 0) && decide ((c.una.length:Int) < c.win)) || decide (IntKind.i64.wrap (c.nxt + (c.wai.length:Int)) > 10000) || decide (c.exp < c.base) || decide (c.exp > c.nxt) || c.exp != (c.del.length:Int)
def chr4 (c:Ch):Bool:=!(!c.una.any (lngP 200)) || !(!c.wai.any (lngP 200)) || !(!c.del.any (lngP 200)) || decide ((c.tos.length:Int) > 200) || decide ((c.bak.length:Int) > 200) || !(!c.tos.any (lngP 212)) || !(!c.bak.any (lngP 212))
theorem chr_eq (c:Ch):chkC c=(chr1 c || chr2 c || !earB c.nxt c.exp c.ear || chr4 c):=by
 unfold chkC chr1 chr2 chr4 chk1 chk2 chk3 chk4 chk5
 simp only [Bool.not_not,gt_iff_lt]
 rw [Bool.and_comm (decide (0 < (c.wai.length:Int)))]
 ac_rfl
theorem c17 (c:Ch) (h0:c.una.length≤140737488355328) (h1:c.wai.length≤140737488355328) (h2:c.ear.length≤140737488355328) (h3:c.del.length≤140737488355328) (h4:c.tos.length≤140737488355328) (h5:c.bak.length≤140737488355328):Pf Tryd.prog 17 [c.d] (.d (.int .i64 (if chkC c=true then 331 else 0))):=by
 have l0:(c.una.map D.str).length=c.una.length:=List.length_map ..
 have l1:(c.wai.map D.str).length=c.wai.length:=List.length_map ..
 have l3:(c.del.map D.str).length=c.del.length:=List.length_map ..
 have l4:(c.tos.map D.str).length=c.tos.length:=List.length_map ..
 have l5:(c.bak.map D.str).length=c.bak.length:=List.length_map ..
 rw [chr_eq]
 unfold Ch.d strs
 refine pfb Tryd.func17 Tryd.ntmps17 Tryd.results17 (fun S0 O0 w0 m0 hm0=>?_)
 repeat' (fail_if_success refine fz true (s:=⟨_,[_]⟩) (by exact rfl) ?_);first | refine s_ ?_ | fail
 refine Z8 ?_
 repeat' first | refine s_ ?_ | fail
 refine d_ (fun hb=>?_) (fun hb=>?_)
 · have hc:chr1 c=true:=by rw [l0] at hb;exact hb
   repeat' first | refine s_ ?_ | fail
   exact en (by exact rfl) (by rw [hc];rfl)
 have hc1:chr1 c=false:=by rw [l0] at hb;exact hb
 repeat' first | refine s_ ?_ | fail
 refine d_ (fun hb=>?_) (fun hb=>?_)
 · have hc:chr2 c=true:=by rw [l0,l1,l3] at hb;exact hb
   repeat' first | refine s_ ?_ | fail
   exact en (by exact rfl) (by rw [hc1,hc];rfl)
 have hc2:chr2 c=false:=by rw [l0,l1,l3] at hb;exact hb
 repeat' first | refine s_ ?_ | fail
 have le:(c.ear.map Pk.d).length=c.ear.length:=List.length_map ..
 refine gLo (fun x:Nat×Int=>⟨[(1,.d (.ptr (.agg [.int .i64 c.win,.int .i64 c.base,.int .i64 c.nxt,.sl (c.una.map D.str),.sl (c.wai.map D.str),.int .i64 c.exp,.sl (c.ear.map Pk.d),.sl (c.del.map D.str),.sl (c.tos.map D.str),.sl (c.bak.map D.str)]))),(3,.d (.int .i64 x.2)),(4,.d (.int .i64 (x.1:Int)))],[]⟩) (fun x=>c.ear.length - x.1) (fun x=>x.1≤c.ear.length∧earB c.nxt c.exp c.ear=earB c.nxt x.2 (c.ear.drop x.1)) (0,c.exp) ⟨Nat.zero_le _,rfl⟩ le_of (fun x hx Q' hn he hr hp=>?_)
 obtain ⟨z,a⟩:=x
 obtain ⟨hz,hinv⟩:=hx
 dsimp only at hz hinv ⊢
 repeat' first | refine s_ ?_ | fail
 refine d_ (fun hb2=>?_) (fun hb2=>?_)
 · have hlt:z < c.ear.length:=by have:=oR hb2;omega
   obtain ⟨p,hp2⟩:∃ p,c.ear[z]? = some p:=⟨_,gE hlt⟩
   have hdr:c.ear.drop z=p :: c.ear.drop (z + 1):=by
    rw [List.drop_eq_getElem_cons hlt];rw [gE hlt] at hp2;injection hp2 with hp2;rw [hp2]
   rw [hdr,earB] at hinv
   repeat' first | refine s_ ?_ | fail
   refine el (by exact rfl) (pk_get hp2) ?_ (by omega)
   unfold Pk.d
   iterate 3 refine s_ ?_
   refine Z8 ?_
   repeat' first | refine s_ ?_ | fail
   refine d_ (fun hb3=>?_) (fun hb3=>?_)
   · have hbad:(p.kd != 1 || decide (p.nu≤a) || decide (p.nu ≥ c.nxt) || decide ((p.bo.size:Int) > 200))=true:=hb3
     rw [hbad] at hinv
     repeat' first | refine s_ ?_ | fail
     refine Z28 ?_
     repeat' first | refine s_ ?_ | fail
     exact en (by exact rfl) (by rw [hc1,hc2,hinv];rfl)
   · have hgood:(p.kd != 1 || decide (p.nu≤a) || decide (p.nu ≥ c.nxt) || decide ((p.bo.size:Int) > 200))=false:=hb3
     rw [hgood] at hinv
     repeat' first | refine s_ ?_ | fail
     rw [show IntKind.i64.wrap ((z:Int) + 1)=((z + 1:Nat):Int) by rw [wrap_i64 (by omega) (by omega)];rfl]
     exact Y12
 · have hle:c.ear.length≤z:=by have:=of_decide_eq_false hb2;omega
   have hev:earB c.nxt c.exp c.ear=true:=by rw [hinv,List.drop_eq_nil_of_le hle];rfl
   have qa:=c39 c.una 200 h0
   have qb:=c39 c.wai 200 h1
   have qc:=c39 c.del 200 h3
   have qd:=c39 c.tos 212 h4
   have qe:=c39 c.bak 212 h5
   repeat' first | refine s_ ?_ | fail
   refine Z15 ?_
   repeat' first | refine s_ ?_ | refine c_ qa ?_ | refine clg (by exact rfl) (fun _=>qb) ?_ | refine clg (by exact rfl) (fun _=>qc) ?_ | refine clg (by exact rfl) (fun _=>qd) ?_ | refine clg (by exact rfl) (fun _=>qe) ?_ | fail
   refine d_ (fun hb4=>?_) (fun hb4=>?_)
   · have hc4:chr4 c=true:=by rw [l4,l5] at hb4;exact hb4
     repeat' first | refine s_ ?_ | fail
     exact en (by exact rfl) (by rw [hc1,hc2,hev,hc4];rfl)
   · have hc4:chr4 c=false:=by rw [l4,l5] at hb4;exact hb4
     repeat' first | refine s_ ?_ | fail
     exact en (by exact rfl) (by rw [hc1,hc2,hev,hc4];rfl)
end
section
def sentL (l:List ByteArray) (q:Pk):List ByteArray:=if (l.length:Int) ≥ 200 then l else l++[enC q]
def RowR (xs:List ByteArray) (r:PV) (m:List (List PV)):Prop:=∃ pre' post':List D,(∀ x ∈ pre',x.cells.length=1)∧(∀ x ∈ post',x.cells.length=1)∧r=rowV 0 1 pre' (sD xs) post'∧m=[flat (pre'++sD xs++post')]
theorem c43 (l:List ByteArray) (q:Pk) (pre post:List D) (hpre:∀ x ∈ pre,x.cells.length=1) (hpost:∀ x ∈ post,x.cells.length=1):Gj 0 Tryd.prog 43 [rowV 0 1 pre (sD l) post,.d q.d] [flat (pre++sD l++post)] (RowR (sentL l q)):=by
 have q11:=c11 q
 unfold Pk.d at q11 ⊢
 refine gjB 0 1 Tryd.func43 Tryd.ntmps43 Tryd.results43 (fun S0 O0 w0 m0 hm0=>?_)
 iterate 3 refine s_ ?_
 refine fz true (by exact rfl) ?_ (by rw [hm0];decide) (by show (_ && _)=true;rw [refs_flat];rfl)
 repeat' first | refine s_ ?_ | fail
 refine d_ (fun hb=>?_) (fun hb=>?_)
 · have h:(l.length:Int) ≥ 200:=by rw [sD_len] at hb;exact oR hb
   rw [show sentL l q=l from if_pos h]
   repeat' first | refine s_ ?_ | fail
   exact enj (mem':=[flat (pre++sD l++post)]) (by exact rfl) ⟨pre,post,hpre,hpost,rfl,rfl⟩ (.cons (CSub_flat _ _) .nil)
 · have h:¬ (l.length:Int) ≥ 200:=by rw [sD_len] at hb;exact of_decide_eq_false hb
   rw [show sentL l q=l++[enC q] from if_neg h]
   repeat' first | refine s_ ?_ | refine c_ q11 ?_ | refine bs (by exact rfl) ?_ | fail
   refine gApG (pre:=pre) (xs:=sD l) (post:=post) (ys:=[.str (enC q)]) rfl rfl rfl rfl rfl (by rw [hm0];decide) (nref_flat1 _) rfl (by simp) (row_k hpre (sD_k _) hpost) (by simp [D.cells]) (by decide) u35 inf9 rfl (by simp [Value.cells,Value.oneCell']) (by rw [sD_len];unfold lim;simp;omega) (by rw [sD_len];unfold lim;simp;omega) (Nat.le_of_ble_eq_true rfl) (fun a b hab=>?_)
   rw [← List.length_append,sD_snoc]
   rw [sD_snoc] at hab
   repeat' first | refine s_ ?_ | fail
   exact enj (mem':=[flat (a++sD (l++[enC q])++b)]) (by exact rfl) ⟨a,b,fun x hx=>hab x (List.mem_append_left _ (List.mem_append_left _ hx)),fun x hx=>hab x (List.mem_append_right _ hx),rfl,rfl⟩ (.cons (CSub_flat _ _) .nil)
def ChRr (c:Ch) (p:Pp):List (List PV):=[flat (p.u1++sD c.una++p.u2),flat (p.w1++sD c.wai++p.w2),flat (p.e1++pD c.ear++p.e2),flat (p.d1++sD c.del++p.d2),flat (p.t1++sD c.tos++p.t2),flat (p.b1++sD c.bak++p.b2)]
set_option maxRecDepth 100000 in
theorem c42 (c:Ch) (h:c.Few):Gm Tryd.prog 42 [.d c.d] [] (.agg (ChA c p0 2 3 5 6 7 4)) ([unk 10,unk 10]++ChRr c p0):=by
 unfold Ch.d
 refine gmB 0 Tryd.func42 Tryd.ntmps42 Tryd.results42 (fun S0 O0 w0 m0 hm0=>?_)
 repeat' first | refine s_ ?_ | fail
 refine Z22 ?_
 dsimp only [GS.set]
 iterate 2 refine s_ ?_
 refine gyl rfl rfl (Y_appendN (ys:=sD c.una) rfl rfl (sD_k _) (by decide) u35 inf9 (by rfl) (by simp [Value.cells,Value.oneCell']) (by rw [sD_len];have:=h.una;unfold lim;omega) (by rw [sD_len];have:=h.una;unfold lim;omega) (Nat.le_of_ble_eq_true rfl)) ?_
 repeat' first | refine s_ ?_ | fail
 refine Z22 ?_
 dsimp only [GS.set]
 iterate 2 refine s_ ?_
 refine gyl rfl rfl (Y_appendN (ys:=sD c.wai) rfl rfl (sD_k _) (by decide) u35 inf9 (by rfl) (by simp [Value.cells,Value.oneCell']) (by rw [sD_len];have:=h.wai;unfold lim;omega) (by rw [sD_len];have:=h.wai;unfold lim;omega) (Nat.le_of_ble_eq_true rfl)) ?_
 repeat' first | refine s_ ?_ | fail
 refine gyl rfl rfl (y_buildSlice0 u36 inf23) ?_
 dsimp only [GS.set]
 iterate 2 refine s_ ?_
 refine gyl rfl rfl (Y_appendN (ys:=pD c.ear) rfl rfl (pD_k _) (by decide) u36 inf23 (by rfl) (by simp [Value.cells,Value.oneCell']) (by rw [pD_len];have:=h.ear;unfold lim;omega) (by rw [pD_len];have:=h.ear;unfold lim;omega) (Nat.le_of_ble_eq_true rfl)) ?_
 repeat' first | refine s_ ?_ | fail
 refine Z22 ?_
 dsimp only [GS.set]
 iterate 2 refine s_ ?_
 refine gyl rfl rfl (Y_appendN (ys:=sD c.del) rfl rfl (sD_k _) (by decide) u35 inf9 (by rfl) (by simp [Value.cells,Value.oneCell']) (by rw [sD_len];have:=h.del;unfold lim;omega) (by rw [sD_len];have:=h.del;unfold lim;omega) (Nat.le_of_ble_eq_true rfl)) ?_
 repeat' first | refine s_ ?_ | fail
 refine Z22 ?_
 dsimp only [GS.set]
 iterate 2 refine s_ ?_
 refine gyl rfl rfl (Y_appendN (ys:=sD c.tos) rfl rfl (sD_k _) (by decide) u35 inf9 (by rfl) (by simp [Value.cells,Value.oneCell']) (by rw [sD_len];have:=h.tos;unfold lim;omega) (by rw [sD_len];have:=h.tos;unfold lim;omega) (Nat.le_of_ble_eq_true rfl)) ?_
 repeat' first | refine s_ ?_ | fail
 refine Z22 ?_
 dsimp only [GS.set]
 iterate 2 refine s_ ?_
 refine gyl rfl rfl (Y_appendN (ys:=sD c.bak) rfl rfl (sD_k _) (by decide) u35 inf9 (by rfl) (by simp [Value.cells,Value.oneCell']) (by rw [sD_len];have:=h.bak;unfold lim;omega) (by rw [sD_len];have:=h.bak;unfold lim;omega) (Nat.le_of_ble_eq_true rfl)) ?_
 repeat' first | refine s_ ?_ | fail
 refine enm (mem':=[unk 10,unk 10]++ChRr c p0) (by exact rfl) ?_ ?_
 · simp only [rowV0];rfl
 · unfold ChRr
   simp only [p0,List.nil_append,List.append_nil]
   exact .cons (CSub_unk _ _) (.cons (CSub_unk _ _) (.cons (CSub_flat _ _) (.cons (CSub_flat _ _) (.cons (CSub_flat _ _) (.cons (CSub_flat _ _) (.cons (CSub_flat _ _) (.cons (CSub_flat _ _) .nil)))))))
end
section
theorem ChRr_rens (f:Nat→Nat) (c:Ch) (p:Pp):(ChRr c p).map (PV.rens f)=ChRr c p:=by simp only [ChRr,List.map_cons,List.map_nil,rens_flat]
end
end Go.Proofs.YtoonleefemkalaaDoor
