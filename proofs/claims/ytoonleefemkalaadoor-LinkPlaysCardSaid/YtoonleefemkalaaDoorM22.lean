import Derived.Test.YtoonleefemkalaaDoorM21
import Derived.Test.YtoonleefemkalaaDoorM16
import Derived.RangeFuncLeaves
/- Contracts of functions. Conditions: none. -/
set_option linter.unusedSimpArgs false
set_option linter.unusedVariables false
set_option maxRecDepth 20000
namespace Go.Proofs.YtoonleefemkalaaDoor
open Go Go.Proofs.YtoonleefemkalaaDoor.E
section
def acD (k:Int) (b:Bool) (ix at_:Int):D:=.agg [.int .i64 k,.bool b,.int .i64 ix,.int .i64 at_]
theorem c44t (c:Ch) (k ix at_:Int):Mt 44 [.ref 0 0,.d (acD k false ix at_)] c (.ref 0 8) c:=by
 intro p hp
 unfold acD
 refine gjB 1 7 Tryd.func44 Tryd.ntmps44 Tryd.results44 (fun S0 O0 w0 m0 hm0=>?_)
 iterate 3 refine s_ ?_
 refine fz true (by exact rfl) ?_ (by rw [hm0];decide) (ChM_refs c p)
 repeat' first | refine s_ ?_ | fail
 refine Z1 ?_
 repeat' first | refine s_ ?_ | fail
 exact Y2
theorem c44b (c:Ch) (k ix at_:Int):Mt 44 [.ref 0 0,.d (acD k true ix at_)] c (.ref 0 9) c:=by
 intro p hp
 unfold acD
 refine gjB 1 7 Tryd.func44 Tryd.ntmps44 Tryd.results44 (fun S0 O0 w0 m0 hm0=>?_)
 iterate 3 refine s_ ?_
 refine fz true (by exact rfl) ?_ (by rw [hm0];decide) (ChM_refs c p)
 repeat' first | refine s_ ?_ | fail
 refine Z16 ?_
 repeat' first | refine s_ ?_ | fail
 exact Y2
theorem k1_cons {l:List D} {s:ByteArray} (h:∀ x ∈ l,x.cells.length=1):∀ x ∈ D.str s :: l,x.cells.length=1:=fun x hx=>by
 rcases List.mem_cons.1 hx with rfl | hx
 · rfl
 · exact h x hx
theorem keepG_true:∀ l:List (Nat×PV),keepG (fun _=>true) l=l
 | []=>rfl
 | x :: l=>by show (x.1,_) :: keepG (fun _=>true) l=_;rw [keepG_true l];rfl
theorem c46b (c:Ch) (k at_:Int) (i:Nat) (hi:i < c.bak.length) (hc:c.bak.length≤1000000):Mt 46 [.ref 0 0,.d (acD k true (i:Int) at_)] c (.d (.int .i64 0)) { c with bak:=c.bak.eraseIdx i }:=by
 intro p hp
 have q44:=c44b c k (i:Int) at_
 have hw:IntKind.i64.wrap ((i:Int) + 1)=((i + 1:Nat):Int):=by rw [wrap_i64 (by omega) (by omega)];rfl
 unfold acD at q44 ⊢
 refine gjB 1 7 Tryd.func46 Tryd.ntmps46 Tryd.results46 (fun S0 O0 w0 m0 hm0=>?_)
 iterate 4 refine s_ ?_
 refine fz true (by exact rfl) ?_ (by rw [hm0];decide) (ChM_refs c p)
 repeat' first | refine s_ ?_ | fail
 refine Z14 ?_
 refine cj (by exact rfl) q44 hp (fun p' hp'=>?_)
 have q61:=c61 c.bak p'.b1 p'.b2 i hp'.b1 hp'.b2 hi
 rw [← hw] at q61
 repeat' first | refine s_ ?_ | fail
 rw [List.append_nil]
 refine kp [(0,.ref 0 0),(5,.ref 0 9),(3,.d (.ptr (.agg [.int .i64 k,.bool true,.int .i64 (i:Int),.int .i64 at_]))),(4,.d (.int .i64 0))] ⟨rfl,rfl,rfl,rfl,trivial⟩ ?_
 refine gTab (A:=Unit) (m1:=fun _=>(ChM c p').set 5 (flat (p'.b1++sD (c.bak.eraseIdx i)++(.str ByteArray.empty :: p'.b2)))) (m2:=fun _=>ChM { c with bak:=c.bak.eraseIdx i } { p' with b2:=.str ByteArray.empty :: p'.b2 })
  9 11 [] (fun _=>true) [(0,9,.ref 0 9),(1,10,.ref 0 9),(2,11,.ref 0 9),(3,12,rowV 5 1 p'.b1 (sD c.bak) p'.b2),(4,13,.d (.ptr (.int .i64 (i:Int)))),(5,14,.d (.int .i64 (i:Int))),(6,15,.d (.ptr (.int .i64 (i:Int)))),(7,16,.d (.int .i64 (i:Int))),(8,17,.d (.int .i64 (IntKind.i64.wrap ((i:Int) + 1))))]
  [(10,19,.ref 0 9)] 18 (fun _=>rowV 5 1 p'.b1 (sD (c.bak.eraseIdx i)) (.str ByteArray.empty :: p'.b2)) () [0,1,2,3,4,5,6,7,8,10,11]
  (by exact rfl) mixed (by kernel_rfl) rfl (by kernel_rfl) rfl rfl rfl rfl rfl rfl rfl (by exact rfl) (fun rest Q' hQ=>?_) (fun a=>?_) rfl (by kernel_rfl) (fun a h=>absurd h (by decide)) (fun a=>?_)
 · have hQ1:=hQ ()
   rw [keepG_true] at hQ1
   exact E.gMs [5] (by exact rfl) q61 (by exact rfl) (by decide) (by simp [ChM,ChR]) (by simp only [List.map_cons,List.map_nil,rens_flat];rfl) rfl (by simp only [List.all_cons,List.all_nil,refs_flat,Bool.and_self]) rfl (by exact rfl) (by simp only [List.map_cons,List.map_nil,rens_flat];rfl) hQ1
 · refine ⟨?_,?_,?_,?_,?_,?_,?_,?_,?_,?_,?_,trivial⟩
   · exact tq3 (by exact rfl) (by exact rfl) rfl rfl (by exact fun _ _=>rfl)
   iterate 8 exact ta_
   · exact tb (by exact rfl) (by exact rfl) rfl rfl (by kernel_rfl) (by kernel_rfl) (by exact fun _=>rfl)
   · exact ts (by exact rfl) (by exact rfl) rfl (by kernel_rfl) (by exact fun _=>rfl)
 · refine s_ ?_
   refine Z23 ?_
   repeat' first | refine s_ ?_ | fail
   exact enj (mem':=ChM { c with bak:=c.bak.eraseIdx i } { p' with b2:=.str ByteArray.empty :: p'.b2 }) (by exact rfl) ⟨rfl,{ p' with b2:=.str ByteArray.empty :: p'.b2 },{ hp' with b2:=k1_cons hp'.b2 },rfl⟩ (ChM_sub { c with bak:=c.bak.eraseIdx i } { p' with b2:=.str ByteArray.empty :: p'.b2 } [])
theorem c46t (c:Ch) (k at_:Int) (i:Nat) (hi:i < c.tos.length) (hc:c.tos.length≤1000000):Mt 46 [.ref 0 0,.d (acD k false (i:Int) at_)] c (.d (.int .i64 0)) { c with tos:=c.tos.eraseIdx i }:=by
 intro p hp
 have q44:=c44t c k (i:Int) at_
 have hw:IntKind.i64.wrap ((i:Int) + 1)=((i + 1:Nat):Int):=by rw [wrap_i64 (by omega) (by omega)];rfl
 unfold acD at q44 ⊢
 refine gjB 1 7 Tryd.func46 Tryd.ntmps46 Tryd.results46 (fun S0 O0 w0 m0 hm0=>?_)
 iterate 4 refine s_ ?_
 refine fz true (by exact rfl) ?_ (by rw [hm0];decide) (ChM_refs c p)
 repeat' first | refine s_ ?_ | fail
 refine Z14 ?_
 refine cj (by exact rfl) q44 hp (fun p' hp'=>?_)
 have q61:=c61 c.tos p'.t1 p'.t2 i hp'.t1 hp'.t2 hi
 rw [← hw] at q61
 repeat' first | refine s_ ?_ | fail
 rw [List.append_nil]
 refine kp [(0,.ref 0 0),(5,.ref 0 8),(3,.d (.ptr (.agg [.int .i64 k,.bool false,.int .i64 (i:Int),.int .i64 at_]))),(4,.d (.int .i64 0))] ⟨rfl,rfl,rfl,rfl,trivial⟩ ?_
 refine gTab (A:=Unit) (m1:=fun _=>(ChM c p').set 4 (flat (p'.t1++sD (c.tos.eraseIdx i)++(.str ByteArray.empty :: p'.t2)))) (m2:=fun _=>ChM { c with tos:=c.tos.eraseIdx i } { p' with t2:=.str ByteArray.empty :: p'.t2 })
  9 11 [] (fun _=>true) [(0,9,.ref 0 8),(1,10,.ref 0 8),(2,11,.ref 0 8),(3,12,rowV 4 1 p'.t1 (sD c.tos) p'.t2),(4,13,.d (.ptr (.int .i64 (i:Int)))),(5,14,.d (.int .i64 (i:Int))),(6,15,.d (.ptr (.int .i64 (i:Int)))),(7,16,.d (.int .i64 (i:Int))),(8,17,.d (.int .i64 (IntKind.i64.wrap ((i:Int) + 1))))]
  [(10,19,.ref 0 8)] 18 (fun _=>rowV 4 1 p'.t1 (sD (c.tos.eraseIdx i)) (.str ByteArray.empty :: p'.t2)) () [0,1,2,3,4,5,6,7,8,10,11]
  (by exact rfl) mixed (by kernel_rfl) rfl (by kernel_rfl) rfl rfl rfl rfl rfl rfl rfl (by exact rfl) (fun rest Q' hQ=>?_) (fun a=>?_) rfl (by kernel_rfl) (fun a h=>absurd h (by decide)) (fun a=>?_)
 · have hQ1:=hQ ()
   rw [keepG_true] at hQ1
   exact E.gMs [4] (by exact rfl) q61 (by exact rfl) (by decide) (by simp [ChM,ChR]) (by simp only [List.map_cons,List.map_nil,rens_flat];rfl) rfl (by simp only [List.all_cons,List.all_nil,refs_flat,Bool.and_self]) rfl (by exact rfl) (by simp only [List.map_cons,List.map_nil,rens_flat];rfl) hQ1
 · refine ⟨?_,?_,?_,?_,?_,?_,?_,?_,?_,?_,?_,trivial⟩
   · exact tq3 (by exact rfl) (by exact rfl) rfl rfl (by exact fun _ _=>rfl)
   iterate 8 exact ta_
   · exact tb (by exact rfl) (by exact rfl) rfl rfl (by kernel_rfl) (by kernel_rfl) (by exact fun _=>rfl)
   · exact ts (by exact rfl) (by exact rfl) rfl (by kernel_rfl) (by exact fun _=>rfl)
 · refine s_ ?_
   refine Z23 ?_
   repeat' first | refine s_ ?_ | fail
   exact enj (mem':=ChM { c with tos:=c.tos.eraseIdx i } { p' with t2:=.str ByteArray.empty :: p'.t2 }) (by exact rfl) ⟨rfl,{ p' with t2:=.str ByteArray.empty :: p'.t2 },{ hp' with t2:=k1_cons hp'.t2 },rfl⟩ (ChM_sub { c with tos:=c.tos.eraseIdx i } { p' with t2:=.str ByteArray.empty :: p'.t2 } [])
variable {ops:Array Oper} {i t:Nat}
theorem tav {K:Ctx} {kl:List (Nat×Nat)} {base pre:List (Nat×PV)} {fs:List (Nat×Nat×PV)} {X S:Nat} {m0 m1 m2:List (List PV)} {p:PV} {ob:List (Bool×Bool)} {o:Oper} {slx:List (Nat×PV)→List (Nat×PV)} (hs:pick fs (dsK kl ops i)++base=pre) (he:entsOf i fs=[(t,p)]) (hX:Nat.beq i X=false) (hS:Nat.beq i S=false)
 (ha:memN i (ancs ops 7 [X])=true) (h0:∀ rest,gview ops.toList K.n i (pre++rest)=some (t,none,ob,o,slx rest)) (hq:∀ rest,t < K.n→Qy K o ⟨slx rest,m0⟩ t p) (ho0:Obl ob:=by exact Obl.nil):TabOp K ops kl base fs X S m0 m1 m2 i:=
 tA hs he hX hS ha (fun rest _ hg=>gqy (h0 rest) (fun _ ht=>hq rest ht) hg ho0)
theorem sD_get {l:List ByteArray} {x:ByteArray} (h:l[i]? = some x):(sD l)[i]? = some (.str x):=by unfold sD;rw [List.getElem?_map,h];rfl
theorem sD_ne {l:List ByteArray} (h:i < l.length):sD l ≠ []:=fun e=>by
 have h3:(sD l).length=0:=by rw [e];rfl
 rw [sD_len] at h3;omega
theorem c47t (c:Ch) (k at_:Int) (i:Nat) {x:ByteArray} (hx:c.tos[i]? = some x) (hc:c.tos.length≤1000000):Mt 47 [.ref 0 0,.d (acD k false (i:Int) at_)] c (.d (.int .i64 (if c.tos.length=200 then 5 else 0))) (if c.tos.length=200 then c else { c with tos:=c.tos++[x] }):=by
 intro p hp
 have hi:i < c.tos.length:=(lG hx)
 have q44:=c44t c k (i:Int) at_
 unfold acD at q44 ⊢
 refine gjB 1 7 Tryd.func47 Tryd.ntmps47 Tryd.results47 (fun S0 O0 w0 m0 hm0=>?_)
 iterate 4 refine s_ ?_
 refine fz true (by exact rfl) ?_ (by rw [hm0];decide) (ChM_refs c p)
 repeat' first | refine s_ ?_ | fail
 refine Z14 ?_
 refine cj (by exact rfl) q44 hp (fun p' hp'=>?_)
 repeat' first | refine s_ ?_ | fail
 rw [List.append_nil]
 refine d_ (fun hb=>?_) (fun hb=>?_)
 · have he:c.tos.length=200:=by have:=oR hb;rw [sD_len] at this;omega
   rw [if_pos he,if_pos he]
   repeat' first | refine s_ ?_ | fail
   exact Y13
 have he:¬ c.tos.length=200:=fun e=>by have:=of_decide_eq_false hb;rw [sD_len,e] at this;exact this rfl
 rw [if_neg he,if_neg he]
 repeat' first | refine s_ ?_ | fail
 refine kp [(0,.ref 0 0),(5,.ref 0 8),(3,.d (.ptr (.agg [.int .i64 k,.bool false,.int .i64 (i:Int),.int .i64 at_]))),(4,.d (.int .i64 0))] ⟨rfl,rfl,rfl,rfl,trivial⟩ ?_
 refine gTab (A:=Pq 1 (sD (c.tos++[x]))) (m1:=fun a=>((ChM c p').set 0 ((ChA c p' 1 2 3 4 5 6).set 8 .undef)).set 4 (flat (a.1.1++sD (c.tos++[x])++a.1.2))) (m2:=fun a=>ChM { c with tos:=c.tos++[x] } { p' with t1:=a.1.1,t2:=a.1.2 })
  12 14 [(3,12),(6,12),(9,12)] (PV.nref 4) [(0,14,.ref 0 8),(1,15,.ref 0 8),(2,16,.ref 0 8),(3,17,rowV 4 1 p'.t1 (sD c.tos) p'.t2),(4,18,.ref 0 8),(5,19,.ref 0 8),(6,20,rowV 4 1 p'.t1 (sD c.tos) p'.t2),(7,21,.d (.ptr (.int .i64 (i:Int)))),(8,22,.d (.int .i64 (i:Int))),(9,23,.ref 4 (rlo 1 p'.t1 (sD c.tos) p'.t2 + ((i:Int)).toNat * 1)),(10,24,.d (.str x)),(11,25,.osl 1 [.str x])]
  [(13,27,.ref 0 8)] 26 (fun a=>rowV 4 1 a.1.1 (sD (c.tos++[x])) a.1.2) ⟨([],[]),row_k (by simp) (sD_k _) (by simp)⟩ [0,1,2,3,4,5,6,7,8,9,10,11,13,14]
  (by exact rfl) mixed (by kernel_rfl) rfl (by kernel_rfl) rfl rfl rfl rfl rfl rfl rfl (by exact rfl) (fun rest Q' hQ=>?_) (fun a=>?_) rfl (by kernel_rfl) (fun a h=>absurd h (by decide)) (fun a=>?_)
 · refine gCell 0 8 rfl rfl ?_ rfl rfl
   exact gApG (pre:=p'.t1) (xs:=sD c.tos) (post:=p'.t2) (ys:=[.str x]) rfl rfl rfl rfl rfl (by rw [hm0];decide) (by exact J1) rfl (by simp) (row_k hp'.t1 (sD_k _) hp'.t2) (by simp [D.cells]) (by decide) u35 inf9 rfl (by simp [Value.cells,Value.oneCell']) (by rw [sD_len];unfold lim;simp;omega) (by rw [sD_len];unfold lim;simp;omega) (Nat.le_of_ble_eq_true rfl) (fun a b hab=>by rw [sD_snoc] at hab;rw [← List.length_append,sD_snoc];exact hQ ⟨(a,b),hab⟩)
 · refine ⟨?_,?_,?_,?_,?_,?_,?_,?_,?_,?_,?_,?_,?_,?_,trivial⟩
   · exact tq3 (by exact rfl) (by exact rfl) rfl rfl (by exact fun _ _=>rfl)
   iterate 8 exact ta_
   · exact tav (pre:=(20,rowV 4 1 p'.t1 (sD c.tos) p'.t2) :: (22,.d (.int .i64 (i:Int))) :: [(0,.ref 0 0),(5,.ref 0 8),(3,.d (.ptr (.agg [.int .i64 k,.bool false,.int .i64 (i:Int),.int .i64 at_]))),(4,.d (.int .i64 0))]) rfl rfl rfl rfl (by kernel_rfl) (fun _=>rfl) (fun rest ht=>Q_rowIndex (n:=(sD c.tos).length) rfl rfl (by omega) (by rw [sD_len];simpa using hi) u35 sz9 ht)
   · exact tav (pre:=(23,.ref 4 (rlo 1 p'.t1 (sD c.tos) p'.t2 + ((i:Int)).toNat * 1)) :: [(0,.ref 0 0),(5,.ref 0 8),(3,.d (.ptr (.agg [.int .i64 k,.bool false,.int .i64 (i:Int),.int .i64 at_]))),(4,.d (.int .i64 0))]) rfl rfl rfl rfl (by kernel_rfl) (fun _=>rfl) (fun rest ht=>Q_rowLeaf (pre:=p'.t1) (xs:=sD c.tos) (post:=p'.t2) (i:=i) (f:=0) (k:=1) rfl rfl (by rw [rlo_ne (sD_ne hi)];rfl) (sD_get hx) rfl (row_k hp'.t1 (sD_k _) hp'.t2) u9 rfl rfl ht)
   · exact tal (by exact rfl) (by exact rfl) rfl rfl (by kernel_rfl) (by exact fun _=>rfl)
   · exact tb (by exact rfl) (by exact rfl) rfl rfl (by kernel_rfl) (by kernel_rfl) (by exact fun _=>rfl)
   · exact ts (by exact rfl) (by exact rfl) rfl (by kernel_rfl) (by exact fun _=>rfl)
 · refine s_ ?_
   refine Z23 ?_
   repeat' first | refine s_ ?_ | fail
   exact enj (mem':=ChM { c with tos:=c.tos++[x] } { p' with t1:=a.1.1,t2:=a.1.2 }) (by exact rfl) ⟨rfl,{ p' with t1:=a.1.1,t2:=a.1.2 },{ hp' with t1:=fun x hx=>a.2 x (List.mem_append_left _ (List.mem_append_left _ hx)),t2:=fun x hx=>a.2 x (List.mem_append_right _ hx) },rfl⟩ (ChM_sub { c with tos:=c.tos++[x] } { p' with t1:=a.1.1,t2:=a.1.2 } [])
theorem c47b (c:Ch) (k at_:Int) (i:Nat) {x:ByteArray} (hx:c.bak[i]? = some x) (hc:c.bak.length≤1000000):Mt 47 [.ref 0 0,.d (acD k true (i:Int) at_)] c (.d (.int .i64 (if c.bak.length=200 then 5 else 0))) (if c.bak.length=200 then c else { c with bak:=c.bak++[x] }):=by
 intro p hp
 have hi:i < c.bak.length:=(lG hx)
 have q44:=c44b c k (i:Int) at_
 unfold acD at q44 ⊢
 refine gjB 1 7 Tryd.func47 Tryd.ntmps47 Tryd.results47 (fun S0 O0 w0 m0 hm0=>?_)
 iterate 4 refine s_ ?_
 refine fz true (by exact rfl) ?_ (by rw [hm0];decide) (ChM_refs c p)
 repeat' first | refine s_ ?_ | fail
 refine Z14 ?_
 refine cj (by exact rfl) q44 hp (fun p' hp'=>?_)
 repeat' first | refine s_ ?_ | fail
 rw [List.append_nil]
 refine d_ (fun hb=>?_) (fun hb=>?_)
 · have he:c.bak.length=200:=by have:=oR hb;rw [sD_len] at this;omega
   rw [if_pos he,if_pos he]
   repeat' first | refine s_ ?_ | fail
   exact Y13
 have he:¬ c.bak.length=200:=fun e=>by have:=of_decide_eq_false hb;rw [sD_len,e] at this;exact this rfl
 rw [if_neg he,if_neg he]
 repeat' first | refine s_ ?_ | fail
 refine kp [(0,.ref 0 0),(5,.ref 0 9),(3,.d (.ptr (.agg [.int .i64 k,.bool true,.int .i64 (i:Int),.int .i64 at_]))),(4,.d (.int .i64 0))] ⟨rfl,rfl,rfl,rfl,trivial⟩ ?_
 refine gTab (A:=Pq 1 (sD (c.bak++[x]))) (m1:=fun a=>((ChM c p').set 0 ((ChA c p' 1 2 3 4 5 6).set 9 .undef)).set 5 (flat (a.1.1++sD (c.bak++[x])++a.1.2))) (m2:=fun a=>ChM { c with bak:=c.bak++[x] } { p' with b1:=a.1.1,b2:=a.1.2 })
  12 14 [(3,12),(6,12),(9,12)] (PV.nref 5) [(0,14,.ref 0 9),(1,15,.ref 0 9),(2,16,.ref 0 9),(3,17,rowV 5 1 p'.b1 (sD c.bak) p'.b2),(4,18,.ref 0 9),(5,19,.ref 0 9),(6,20,rowV 5 1 p'.b1 (sD c.bak) p'.b2),(7,21,.d (.ptr (.int .i64 (i:Int)))),(8,22,.d (.int .i64 (i:Int))),(9,23,.ref 5 (rlo 1 p'.b1 (sD c.bak) p'.b2 + ((i:Int)).toNat * 1)),(10,24,.d (.str x)),(11,25,.osl 1 [.str x])]
  [(13,27,.ref 0 9)] 26 (fun a=>rowV 5 1 a.1.1 (sD (c.bak++[x])) a.1.2) ⟨([],[]),row_k (by simp) (sD_k _) (by simp)⟩ [0,1,2,3,4,5,6,7,8,9,10,11,13,14]
  (by exact rfl) mixed (by kernel_rfl) rfl (by kernel_rfl) rfl rfl rfl rfl rfl rfl rfl (by exact rfl) (fun rest Q' hQ=>?_) (fun a=>?_) rfl (by kernel_rfl) (fun a h=>absurd h (by decide)) (fun a=>?_)
 · refine gCell 0 9 rfl rfl ?_ rfl rfl
   exact gApG (pre:=p'.b1) (xs:=sD c.bak) (post:=p'.b2) (ys:=[.str x]) rfl rfl rfl rfl rfl (by rw [hm0];decide) (by exact J1) rfl (by simp) (row_k hp'.b1 (sD_k _) hp'.b2) (by simp [D.cells]) (by decide) u35 inf9 rfl (by simp [Value.cells,Value.oneCell']) (by rw [sD_len];unfold lim;simp;omega) (by rw [sD_len];unfold lim;simp;omega) (Nat.le_of_ble_eq_true rfl) (fun a b hab=>by rw [sD_snoc] at hab;rw [← List.length_append,sD_snoc];exact hQ ⟨(a,b),hab⟩)
 · refine ⟨?_,?_,?_,?_,?_,?_,?_,?_,?_,?_,?_,?_,?_,?_,trivial⟩
   · exact tq3 (by exact rfl) (by exact rfl) rfl rfl (by exact fun _ _=>rfl)
   iterate 8 exact ta_
   · exact tav (pre:=(20,rowV 5 1 p'.b1 (sD c.bak) p'.b2) :: (22,.d (.int .i64 (i:Int))) :: [(0,.ref 0 0),(5,.ref 0 9),(3,.d (.ptr (.agg [.int .i64 k,.bool true,.int .i64 (i:Int),.int .i64 at_]))),(4,.d (.int .i64 0))]) rfl rfl rfl rfl (by kernel_rfl) (fun _=>rfl) (fun rest ht=>Q_rowIndex (n:=(sD c.bak).length) rfl rfl (by omega) (by rw [sD_len];simpa using hi) u35 sz9 ht)
   · exact tav (pre:=(23,.ref 5 (rlo 1 p'.b1 (sD c.bak) p'.b2 + ((i:Int)).toNat * 1)) :: [(0,.ref 0 0),(5,.ref 0 9),(3,.d (.ptr (.agg [.int .i64 k,.bool true,.int .i64 (i:Int),.int .i64 at_]))),(4,.d (.int .i64 0))]) rfl rfl rfl rfl (by kernel_rfl) (fun _=>rfl) (fun rest ht=>Q_rowLeaf (pre:=p'.b1) (xs:=sD c.bak) (post:=p'.b2) (i:=i) (f:=0) (k:=1) rfl rfl (by rw [rlo_ne (sD_ne hi)];rfl) (sD_get hx) rfl (row_k hp'.b1 (sD_k _) hp'.b2) u9 rfl rfl ht)
   · exact tal (by exact rfl) (by exact rfl) rfl rfl (by kernel_rfl) (by exact fun _=>rfl)
   · exact tb (by exact rfl) (by exact rfl) rfl rfl (by kernel_rfl) (by kernel_rfl) (by exact fun _=>rfl)
   · exact ts (by exact rfl) (by exact rfl) rfl (by kernel_rfl) (by exact fun _=>rfl)
 · refine s_ ?_
   refine Z23 ?_
   repeat' first | refine s_ ?_ | fail
   exact enj (mem':=ChM { c with bak:=c.bak++[x] } { p' with b1:=a.1.1,b2:=a.1.2 }) (by exact rfl) ⟨rfl,{ p' with b1:=a.1.1,b2:=a.1.2 },{ hp' with b1:=fun x hx=>a.2 x (List.mem_append_left _ (List.mem_append_left _ hx)),b2:=fun x hx=>a.2 x (List.mem_append_right _ hx) },rfl⟩ (ChM_sub { c with bak:=c.bak++[x] } { p' with b1:=a.1.1,b2:=a.1.2 } [])
def Mf (f:FuncId) (args:List PV) (c:Ch) (r:PV):Prop:=∀ p:Pp,p.Ok→Gm Tryd.prog f args (ChM c p) r (ChM c p)
variable {n:Nat} {S0:Reg} {O0:Owns} {w0:World} {m0 Bs:List Nat} {ds:List Deferred} {fr:List Fr} {c:Ch} {p:Pp}
theorem cjf {Q:Exit→GS→Prop} {l:List Nat} {sl:List (Nat×PV)} {extra:List (List PV)} {f:FuncId} {args:List PV} {r:PV} (h:cms ops.toList n i sl=some (t,f,args)) (hc:Mf f args c r) (hp:p.Ok)
 (hg:GF ⟨Tryd.prog,n,S0,O0,w0,m0,Bs,ds⟩ fr (.ops ops l) Q ⟨(t,r) :: sl,ChM c p++extra⟩) (hargs:args=PV.rens (fun b=>[0,1,2,3,4,5,6].getD b 0) args:=by rfl) (hra:PV.refsBs 7 args=true:=by rfl) (hr:r.ren (fun b=>[0,1,2,3,4,5,6].getD b 0)=r:=by rfl):GF ⟨Tryd.prog,n,S0,O0,w0,m0,Bs,ds⟩ fr (.ops ops (i :: l)) Q ⟨sl,ChM c p++extra⟩:=by
 refine E.gMs [0,1,2,3,4,5,6] h (hc p hp) hargs (by decide) (fun b hb=>?_) ?_ hra (ChM_refs c p) rfl hr ?_ hg
 · have:b < 7:=by
    have h:∀ b ∈ [0,1,2,3,4,5,6],b < 7:=by decide
    exact h b hb
   rw [List.length_append]
   have h7:(ChM c p).length=7:=rfl
   omega
 · rw [ChM_rens];rfl
 · rw [ChM_rens];rfl
theorem ocf {Q:Exit→GS→Prop} {base pre:List (Nat×PV)} {extra:List (List PV)} {j:Nat} {es es':List (Nat×Nat×PV)} {f:FuncId} {args:List PV} {r:PV} (hs:see ops.toList i es base=some pre:=by exact rfl) (hj:nth nums (i + 1)=some j:=by exact rfl) (h:∀ rest,cms ops.toList n i (pre++rest)=some (t,f,args):=by exact fun _=>rfl) (hcf:Mf f args c r) (hp:p.Ok)
 (hes:snocK es (i,t,r) some=some es':=by exact rfl) (hc:CO ⟨Tryd.prog,n,S0,O0,w0,m0,Bs,ds⟩ fr ops base (ChM c p++extra) j es' Q) (hargs:args=PV.rens (fun b=>[0,1,2,3,4,5,6].getD b 0) args:=by rfl) (hra:PV.refsBs 7 args=true:=by rfl) (hr:r.ren (fun b=>[0,1,2,3,4,5,6].getD b 0)=r:=by rfl):CO ⟨Tryd.prog,n,S0,O0,w0,m0,Bs,ds⟩ fr ops base (ChM c p++extra) i es Q:=
 oStep hs hj hes hc fun rest _ hg=>cjf (h rest) hcf hp hg hargs hra hr
theorem dw (k:Nat) {n:Nat} {S0:Reg} {O0:Owns} {w0:World} {m0 Bs:List Nat} {ds:List Deferred} {fr:List Fr} {Q:Exit→GS→Prop} {ops:Array Oper} {base pre:List (Nat×PV)} {ws:List Nat} {ms:List (List (List PV))} {i j:Nat} {es:List (Nat×Nat×PV)} {mem mem':List (List PV)} {o:Oper} (hm1:ms[k]? = some mem:=by rfl) (hm2:ms[k + 1]? = some mem':=by rfl) (hs:see ops.toList i es base=some pre:=by exact rfl) (hj:nth nums (i + 1)=some j:=by exact rfl) (hop:ops[i]? = some o:=by exact rfl) (hg0:o.guard=none:=by exact rfl) (hy:∀ rest,Does ⟨Tryd.prog,n,S0,O0,w0,m0,Bs,ds⟩ o ⟨pre++rest,mem⟩ ⟨pre++rest,mem'⟩)
 (hc:COw ⟨Tryd.prog,n,S0,O0,w0,m0,Bs,ds⟩ fr ops base ws ms j es Q) (hw:ws[k]? = some i:=by rfl) (hch:chained ops ws=true:=by rfl) (hnd:nodupB ws=true:=by rfl):COw ⟨Tryd.prog,n,S0,O0,w0,m0,Bs,ds⟩ fr ops base ws ms i es Q:=
 oActW k hs hj hw hch hnd hm1 hm2 hc fun rest _ hg=>toO (GOps_act hop hg0 (hy rest) (ofO hg))
theorem c44tf (c:Ch) (k ix at_:Int):Mf 44 [.ref 0 0,.d (acD k false ix at_)] c (.ref 0 8):=by
 intro p hp
 unfold acD
 refine gmB 7 Tryd.func44 Tryd.ntmps44 Tryd.results44 (fun S0 O0 w0 m0 hm0=>?_)
 iterate 3 refine s_ ?_
 refine fz true (by exact rfl) ?_ (by rw [hm0];decide) (ChM_refs c p)
 repeat' first | refine s_ ?_ | fail
 refine Z1 ?_
 repeat' first | refine s_ ?_ | fail
 exact enm (mem':=ChM c p) (by exact rfl) rfl (ChM_sub c p [])
theorem c44bf (c:Ch) (k ix at_:Int):Mf 44 [.ref 0 0,.d (acD k true ix at_)] c (.ref 0 9):=by
 intro p hp
 unfold acD
 refine gmB 7 Tryd.func44 Tryd.ntmps44 Tryd.results44 (fun S0 O0 w0 m0 hm0=>?_)
 iterate 3 refine s_ ?_
 refine fz true (by exact rfl) ?_ (by rw [hm0];decide) (ChM_refs c p)
 repeat' first | refine s_ ?_ | fail
 refine Z16 ?_
 repeat' first | refine s_ ?_ | fail
 exact enm (mem':=ChM c p) (by exact rfl) rfl (ChM_sub c p [])
theorem sD_set (l:List ByteArray) (i:Nat) (y:ByteArray):(sD l).set i (.str y)=sD (l.set i y):=by unfold sD;rw [List.map_set]
theorem rowV_set {l:List ByteArray} (b:Nat) (pre post:List D) (y:ByteArray) (hi:i < l.length):rowV b 1 pre (sD (l.set i y)) post=rowV b 1 pre (sD l) post:=by
 unfold rowV
 rw [rlo_ne (sD_ne hi),rlo_ne (sD_ne (i:=i) (by simpa using hi)),sD_len,sD_len,List.length_set]
theorem c48b (c:Ch) (k at_:Int) (i:Nat) {x:ByteArray} (hx:c.bak[i]? = some x):Mt 48 [.ref 0 0,.d (acD k true (i:Int) at_)] c (.d (.int .i64 (if at_ < 0∨at_ ≥ (x.size:Int) then 4 else 0))) (if at_ < 0∨at_ ≥ (x.size:Int) then c else { c with bak:=c.bak.set i (x.extract 0 at_.toNat) }):=by
 intro p hp
 have hi:i < c.bak.length:=(lG hx)
 have q44:=c44bf c k (i:Int) at_
 unfold acD at q44 ⊢
 refine gjB 1 7 Tryd.func48 Tryd.ntmps48 Tryd.results48 (fun S0 O0 w0 m0 hm0=>?_)
 iterate 4 refine s_ ?_
 refine fz true (by exact rfl) ?_ (by rw [hm0];decide) (ChM_refs c p)
 repeat' first | refine s_ ?_ | fail
 refine kp [(0,.ref 0 0),(3,.d (.ptr (.agg [.int .i64 k,.bool true,.int .i64 (i:Int),.int .i64 at_]))),(4,.d (.int .i64 0))] ⟨rfl,rfl,rfl,trivial⟩ ?_
 refine Z14 ?_;refine Z9 ?_;refine Z37 ?_;refine Z30 ?_;refine Z37 ?_;refine Z37 ?_
 refine oqw (hs:=rfl) (hj:=rfl) (h:=fun _=>rfl) (hq:=fun rest _ ht=>Q_rowIndex (n:=(sD c.bak).length) rfl rfl (by omega) (by rw [sD_len];simpa using hi) u35 sz9 ht) (hc:=?_)
 refine Z6 ?_;refine Z7 ?_
 rw [List.append_nil]
 repeat' first | refine s_ ?_ | fail
 refine kp [(5,.ref 5 (rlo 1 p.b1 (sD c.bak) p.b2 + ((i:Int)).toNat * 1)),(3,.d (.ptr (.agg [.int .i64 k,.bool true,.int .i64 (i:Int),.int .i64 at_]))),(4,.d (.int .i64 0))] ⟨rfl,rfl,rfl,trivial⟩ ?_
 refine Z9 ?_
 iterate 8 refine ov (hc:=?_)
 refine oqw (hs:=rfl) (hj:=rfl) (h:=fun _=>rfl) (hq:=fun rest _ ht=>Q_rowLeaf (pre:=p.b1) (xs:=sD c.bak) (post:=p.b2) (i:=i) (f:=0) (k:=1) rfl rfl (by rw [rlo_ne (sD_ne hi)];rfl) (sD_get hx) rfl (row_k hp.b1 (sD_k _) hp.b2) u9 rfl rfl ht) (hc:=?_)
 iterate 3 refine ov (hc:=?_)
 refine Z7 ?_
 repeat' first | refine s_ ?_ | fail
 refine d_ (fun hb=>?_) (fun hb=>?_)
 · have h:at_ < 0∨at_ ≥ (x.size:Int):=by simpa using hb
   rw [if_pos h,if_pos h]
   repeat' first | refine s_ ?_ | fail
   exact Y2
 have h:¬ (at_ < 0∨at_ ≥ (x.size:Int)):=by simpa using hb
 rw [if_neg h,if_neg h]
 repeat' first | refine s_ ?_ | fail
 refine kp [(5,.ref 5 (rlo 1 p.b1 (sD c.bak) p.b2 + ((i:Int)).toNat * 1)),(3,.d (.ptr (.agg [.int .i64 k,.bool true,.int .i64 (i:Int),.int .i64 at_]))),(4,.d (.int .i64 0))] ⟨rfl,rfl,rfl,trivial⟩ ?_
 refine ow [8] [ChM c p,(ChM c p).set 5 (flat (p.b1++(sD c.bak).set i (.str (x.extract 0 at_.toNat))++p.b2))] (hc:=?_)
 refine Z12 ?_;refine Z12 ?_;refine Z12 ?_
 refine qw 0 (hmm:=rfl) (hs:=rfl) (hj:=rfl) (h:=fun _=>rfl) (hq:=fun rest _ ht=>Q_rowLeaf (pre:=p.b1) (xs:=sD c.bak) (post:=p.b2) (i:=i) (f:=0) (k:=1) rfl rfl (by rw [rlo_ne (sD_ne hi)];rfl) (sD_get hx) rfl (row_k hp.b1 (sD_k _) hp.b2) u9 rfl rfl ht) (hc:=?_)
 refine Z12 ?_;refine Z12 ?_
 refine bw (hcc:=?_) (hc:=?_)
 · omega
 refine Z12 ?_
 refine dw 0 (hm1:=rfl) (hm2:=rfl) (hs:=rfl) (hj:=rfl) (hop:=rfl) (hy:=fun rest=>D_rowSet (pre:=p.b1) (xs:=sD c.bak) (post:=p.b2) (i:=i) (k:=1) rfl rfl (by rw [rlo_ne (sD_ne hi)];rfl) (by rw [sD_len];exact hi) (row_k hp.b1 (sD_k _) hp.b2) (by decide) rfl rfl sz9) (hc:=?_)
 refine Z25 ?_
 rw [sD_set]
 refine Z17 ?_;refine Z23 ?_
 repeat' first | refine s_ ?_ | fail
 refine enj (mem':=ChM { c with bak:=c.bak.set i (x.extract 0 at_.toNat) } p) (by exact rfl) ⟨rfl,p,hp,rfl⟩ ?_
 have e:=rowV_set 5 p.b1 p.b2 (x.extract 0 at_.toNat) hi
 have e2:(ChM c p).set 5 (flat (p.b1++sD (c.bak.set i (x.extract 0 at_.toNat))++p.b2))=ChM { c with bak:=c.bak.set i (x.extract 0 at_.toNat) } p:=by
  unfold ChM ChA
  dsimp only
  rw [e];rfl
 rw [e2]
 exact ChM_sub _ p []
theorem c48t (c:Ch) (k at_:Int) (i:Nat) {x:ByteArray} (hx:c.tos[i]? = some x):Mt 48 [.ref 0 0,.d (acD k false (i:Int) at_)] c (.d (.int .i64 (if at_ < 0∨at_ ≥ (x.size:Int) then 4 else 0))) (if at_ < 0∨at_ ≥ (x.size:Int) then c else { c with tos:=c.tos.set i (x.extract 0 at_.toNat) }):=by
 intro p hp
 have hi:i < c.tos.length:=(lG hx)
 have q44:=c44tf c k (i:Int) at_
 unfold acD at q44 ⊢
 refine gjB 1 7 Tryd.func48 Tryd.ntmps48 Tryd.results48 (fun S0 O0 w0 m0 hm0=>?_)
 iterate 4 refine s_ ?_
 refine fz true (by exact rfl) ?_ (by rw [hm0];decide) (ChM_refs c p)
 repeat' first | refine s_ ?_ | fail
 refine Z20 ?_;refine Z14 ?_;refine Z9 ?_;refine Z37 ?_;refine Z30 ?_;refine Z37 ?_;refine Z37 ?_;refine Z19 ?_;refine Z6 ?_;refine Z7 ?_
 rw [List.append_nil]
 repeat' first | refine s_ ?_ | fail
 refine kp [(5,.ref 4 (rlo 1 p.t1 (sD c.tos) p.t2 + ((i:Int)).toNat * 1)),(3,.d (.ptr (.agg [.int .i64 k,.bool false,.int .i64 (i:Int),.int .i64 at_]))),(4,.d (.int .i64 0))] ⟨rfl,rfl,rfl,trivial⟩ ?_
 refine Z9 ?_
 iterate 8 refine ov (hc:=?_)
 refine oqw (hs:=rfl) (hj:=rfl) (h:=fun _=>rfl) (hq:=fun rest _ ht=>Q_rowLeaf (pre:=p.t1) (xs:=sD c.tos) (post:=p.t2) (i:=i) (f:=0) (k:=1) rfl rfl (by rw [rlo_ne (sD_ne hi)];rfl) (sD_get hx) rfl (row_k hp.t1 (sD_k _) hp.t2) u9 rfl rfl ht) (hc:=?_)
 iterate 3 refine ov (hc:=?_)
 refine Z7 ?_
 repeat' first | refine s_ ?_ | fail
 refine d_ (fun hb=>?_) (fun hb=>?_)
 · have h:at_ < 0∨at_ ≥ (x.size:Int):=by simpa using hb
   rw [if_pos h,if_pos h]
   repeat' first | refine s_ ?_ | fail
   exact Y2
 have h:¬ (at_ < 0∨at_ ≥ (x.size:Int)):=by simpa using hb
 rw [if_neg h,if_neg h]
 repeat' first | refine s_ ?_ | fail
 refine kp [(5,.ref 4 (rlo 1 p.t1 (sD c.tos) p.t2 + ((i:Int)).toNat * 1)),(3,.d (.ptr (.agg [.int .i64 k,.bool false,.int .i64 (i:Int),.int .i64 at_]))),(4,.d (.int .i64 0))] ⟨rfl,rfl,rfl,trivial⟩ ?_
 refine ow [8] [ChM c p,(ChM c p).set 4 (flat (p.t1++(sD c.tos).set i (.str (x.extract 0 at_.toNat))++p.t2))] (hc:=?_)
 refine Z12 ?_;refine Z12 ?_;refine Z12 ?_
 refine qw 0 (hmm:=rfl) (hs:=rfl) (hj:=rfl) (h:=fun _=>rfl) (hq:=fun rest _ ht=>Q_rowLeaf (pre:=p.t1) (xs:=sD c.tos) (post:=p.t2) (i:=i) (f:=0) (k:=1) rfl rfl (by rw [rlo_ne (sD_ne hi)];rfl) (sD_get hx) rfl (row_k hp.t1 (sD_k _) hp.t2) u9 rfl rfl ht) (hc:=?_)
 refine Z12 ?_;refine Z12 ?_
 refine bw (hcc:=?_) (hc:=?_)
 · omega
 refine Z12 ?_
 refine dw 0 (hm1:=rfl) (hm2:=rfl) (hs:=rfl) (hj:=rfl) (hop:=rfl) (hy:=fun rest=>D_rowSet (pre:=p.t1) (xs:=sD c.tos) (post:=p.t2) (i:=i) (k:=1) rfl rfl (by rw [rlo_ne (sD_ne hi)];rfl) (by rw [sD_len];exact hi) (row_k hp.t1 (sD_k _) hp.t2) (by decide) rfl rfl sz9) (hc:=?_)
 refine Z25 ?_
 rw [sD_set]
 refine Z17 ?_;refine Z23 ?_
 repeat' first | refine s_ ?_ | fail
 refine enj (mem':=ChM { c with tos:=c.tos.set i (x.extract 0 at_.toNat) } p) (by exact rfl) ⟨rfl,p,hp,rfl⟩ ?_
 have e:=rowV_set 4 p.t1 p.t2 (x.extract 0 at_.toNat) hi
 have e2:(ChM c p).set 4 (flat (p.t1++sD (c.tos.set i (x.extract 0 at_.toNat))++p.t2))=ChM { c with tos:=c.tos.set i (x.extract 0 at_.toNat) } p:=by
  unfold ChM ChA
  dsimp only
  rw [e];rfl
 rw [e2]
 exact ChM_sub _ p []
def ChS (c:Ch) (p:Pp):List (List PV):=[ChA c p 1 2 3 6 4 5,flat (p.u1++sD c.una++p.u2),flat (p.w1++sD c.wai++p.w2),flat (p.d1++sD c.del++p.d2),flat (p.b1++sD c.bak++p.b2),flat (p.e1++pD c.ear++p.e2),flat (p.t1++sD c.tos++p.t2)]
theorem ChS_sub (c:Ch) (p:Pp) (ms:List (List PV)):MSub 7 (ChS c p++ms) (ChS c p):=by
 have h:CSub 7 (ChA c p 1 2 3 6 4 5) (ChA c p 1 2 3 6 4 5):=by
  unfold ChA
  repeat' first | exact .nil | refine .cons (.inl rfl) rfl ?_
 exact .cons h (.cons (CSub_flat _ _) (.cons (CSub_flat _ _) (.cons (CSub_flat _ _) (.cons (CSub_flat _ _) (.cons (CSub_flat _ _) (.cons (CSub_flat _ _) .nil))))))
def pushT (l:List ByteArray) (q:Pk):List ByteArray:=if l.length < 200 then l++[enC q] else l
theorem c58s (c:Ch) (q:Pk) (p:Pp) (hp:p.Ok):Gj 6 Tryd.prog 58 [.ref 0 8,.d q.d] (ChS c p) (fun r m=>r=.tup []∧∃ a b:List D,Pp.Ok { p with t1:=a,t2:=b }∧m=ChS { c with tos:=pushT c.tos q } { p with t1:=a,t2:=b }):=by
 have q10:=c10 q
 unfold Pk.d at q10 ⊢
 refine gjB 6 7 Tryd.func58 Tryd.ntmps58 Tryd.results58 (fun S0 O0 w0 m0 hm0=>?_)
 repeat' first | refine s_ ?_ | fail
 refine d_ (fun hb=>?_) (fun hb=>?_)
 · have hlt:c.tos.length < 200:=by have:=oR hb;rw [sD_len] at this;omega
   repeat' first | refine s_ ?_ | refine c_ q10 ?_ | refine bs (by exact rfl) ?_ | fail
   refine gCell 0 8 rfl rfl ?_ rfl rfl
   refine gApG (pre:=p.t1) (xs:=sD c.tos) (post:=p.t2) (ys:=[.str (enC q)]) rfl rfl rfl rfl rfl (by rw [hm0];decide) (by simp only [ChS,List.set_cons_zero,List.set_cons_succ,nrefM,nrefs_flat,Bool.or_true,Bool.true_and,Bool.and_true]<;>rfl) rfl (by simp) (row_k hp.t1 (sD_k _) hp.t2) (by simp [D.cells]) (by decide) u35 inf9 rfl (by simp [Value.cells,Value.oneCell']) (by rw [sD_len];unfold lim;simp;omega) (by rw [sD_len];unfold lim;simp;omega) (Nat.le_of_ble_eq_true rfl) (fun a b hab=>?_)
   rw [← List.length_append,sD_snoc]
   repeat' first | refine s_ ?_ | fail
   have hs:pushT c.tos q=c.tos++[enC q]:=if_pos hlt
   rw [hs]
   exact enj (mem':=ChS { c with tos:=c.tos++[enC q] } { p with t1:=a,t2:=b }) (by exact rfl) ⟨rfl,a,b,{ hp with t1:=fun x hx=>hab x (List.mem_append_left _ (List.mem_append_left _ hx)),t2:=fun x hx=>hab x (List.mem_append_right _ hx) },rfl⟩ (ChS_sub { c with tos:=c.tos++[enC q] } { p with t1:=a,t2:=b } [_])
 · have hs:pushT c.tos q=c.tos:=if_neg (by have:=of_decide_eq_false hb;rw [sD_len] at this;omega)
   rw [hs]
   repeat' first | refine s_ ?_ | fail
   exact enj (mem':=ChS c p) (by exact rfl) ⟨rfl,p.t1,p.t2,hp,rfl⟩ (ChS_sub c p [_])
theorem ChS_rens (c:Ch) (p:Pp):(ChS c p).map (PV.rens (fun b=>[0,1,2,3,5,6,4].getD b 0))=[ChA c p 1 2 3 4 5 6,flat (p.u1++sD c.una++p.u2),flat (p.w1++sD c.wai++p.w2),flat (p.d1++sD c.del++p.d2),flat (p.b1++sD c.bak++p.b2),flat (p.e1++pD c.ear++p.e2),flat (p.t1++sD c.tos++p.t2)]:=by
 simp only [ChS,List.map_cons,List.map_nil,rens_flat];rfl
theorem ChS_rens2 (n:Nat) (c:Ch) (p:Pp):(ChS c p).map (PV.rens (renN [0,1,2,3,5,6,4] n))=[ChA c p 1 2 3 4 5 6,flat (p.u1++sD c.una++p.u2),flat (p.w1++sD c.wai++p.w2),flat (p.d1++sD c.del++p.d2),flat (p.b1++sD c.bak++p.b2),flat (p.e1++pD c.ear++p.e2),flat (p.t1++sD c.tos++p.t2)]:=by
 simp only [ChS,List.map_cons,List.map_nil,rens_flat];rfl
theorem ChS_refs (c:Ch) (p:Pp):(ChS c p).all (PV.refsBs 7)=true:=by
 simp only [ChS,List.all_cons,List.all_nil,refs_flat,Bool.and_true];rfl
theorem cjs {Q:Exit→GS→Prop} {l:List Nat} {sl:List (Nat×PV)} {q:Pk} (h:cms ops.toList n i sl=some (t,58,[.ref 0 8,.d q.d])) (hp:p.Ok)
 (hg:∀ a b,Pp.Ok { p with t1:=a,t2:=b }→GF ⟨Tryd.prog,n,S0,O0,w0,m0,Bs,ds⟩ fr (.ops ops l) Q ⟨(t,.tup []) :: sansL [4] sl,ChM { c with tos:=pushT c.tos q } { p with t1:=a,t2:=b }⟩) (hm0:m0.length≤1:=by omega):GF ⟨Tryd.prog,n,S0,O0,w0,m0,Bs,ds⟩ fr (.ops ops (i :: l)) Q ⟨sl,ChM c p⟩:=by
 refine gJ (jn:=6) [0,1,2,3,5,6,4] h (c58s c q p hp) (by rfl) (by decide) (fun b hb=>?_) ?_ rfl (ChS_refs c p) (fun b hb=>?_) ?_ ?_
 · have:b < 7:=by
    have h:∀ b ∈ [0,1,2,3,5,6,4],b < 7:=by decide
    exact h b hb
   exact this
 · rw [ChS_rens];rfl
 · rw [show [0,1,2,3,5,6,4].drop 6=[4] from rfl,List.mem_singleton] at hb
   show m0.length≤b
   omega
 · rfl
 · rintro r m ⟨rfl,a,b,hp',rfl⟩ _
   have h2:stJ 6 [0,1,2,3,5,6,4] sl (ChM c p) t (.tup []) (ChS { c with tos:=pushT c.tos q } { p with t1:=a,t2:=b })=⟨(t,.tup []) :: sansL [4] sl,ChM { c with tos:=pushT c.tos q } { p with t1:=a,t2:=b }⟩:=by
    unfold stJ
    rw [show (ChS { c with tos:=pushT c.tos q } { p with t1:=a,t2:=b }).take [0,1,2,3,5,6,4].length=ChS { c with tos:=pushT c.tos q } { p with t1:=a,t2:=b } from rfl,ChS_rens2]
    rfl
   rw [h2]
   exact hg a b hp'
theorem leK {K:Ctx} {sl sl':List (Nat×PV)} {mem:List (List PV)} (hk:Kps sl sl'):Le K ⟨sl,mem⟩ ⟨sl',mem⟩:=Le_slots rfl fun t p hp=>.inl (Kps_get hk t p hp)
def tickL (base:Int):Nat→List ByteArray→List ByteArray→List ByteArray
 | _,[],T=>T
 | z,m :: r,T=>tickL base (z + 1) r (pushT T ⟨1,IntKind.i64.wrap (base + (z:Int)),m⟩)
def tickC (c:Ch):Ch:={ c with tos:=tickL c.base 0 c.una c.tos }
theorem c49 (c:Ch) (a:D) (ha:∃ k b ix at_,a=acD k b ix at_) (hc:c.una.length≤1000000):Mt 49 [.ref 0 0,.d a] c (.d (.int .i64 0)) (tickC c):=by
 intro p hp
 obtain ⟨k,b,ix,at_,rfl⟩:=ha
 unfold acD
 refine gjB 1 7 Tryd.func49 Tryd.ntmps49 Tryd.results49 (fun S0 O0 w0 m0 hm0=>?_)
 iterate 4 refine s_ ?_
 refine fz true (by exact rfl) ?_ (by rw [hm0];decide) (ChM_refs c p)
 repeat' first | refine s_ ?_ | fail
 refine gLo (fun x:Nat×List ByteArray×List D×List D=>⟨[(0,.ref 0 0),(4,.d (.int .i64 0)),(10,rowV 1 1 p.u1 (sD c.una) p.u2),(11,.d (.int .i64 ((sD c.una).length:Int))),(12,.d (.int .i64 (x.1:Int)))],ChM { c with tos:=x.2.1 } { p with t1:=x.2.2.1,t2:=x.2.2.2 }⟩) (fun x=>c.una.length - x.1)
  (fun x=>x.1≤c.una.length∧Pp.Ok { p with t1:=x.2.2.1,t2:=x.2.2.2 }∧tickL c.base 0 c.una c.tos=tickL c.base x.1 (c.una.drop x.1) x.2.1) (0,c.tos,p.t1,p.t2) ⟨Nat.zero_le _,hp,rfl⟩ ?_ (fun x hx Q' hn he hr hp2=>?_)
 · exact leK ⟨rfl,rfl,rfl,rfl,rfl,trivial⟩
 obtain ⟨z,T,a,b2⟩:=x
 obtain ⟨hz,hok,hinv⟩:=hx
 dsimp only at hz hok hinv ⊢
 repeat' first | refine s_ ?_ | fail
 refine d_ (fun hb=>?_) (fun hb=>?_)
 · have hlt:z < c.una.length:=by have:=oR hb;rw [sD_len] at this;omega
   obtain ⟨m,hm⟩:∃ m,c.una[z]? = some m:=⟨_,gE hlt⟩
   have hdr:c.una.drop z=m :: c.una.drop (z + 1):=by
    rw [List.drop_eq_getElem_cons hlt];rw [gE hlt] at hm;injection hm with hm;rw [hm]
   rw [hdr,tickL] at hinv
   repeat' first | refine s_ ?_ | fail
   refine gq (by exact rfl) (fun _ ht=>Q_rowIndex (n:=(sD c.una).length) rfl rfl (by omega) (by rw [sD_len];simpa using hlt) u35 sz9 ht) ?_
   refine gq (by exact rfl) (fun _ ht=>Q_rowLeaf (pre:=p.u1) (xs:=sD c.una) (post:=p.u2) (i:=z) (f:=0) (k:=1) rfl rfl (by rw [rlo_ne (sD_ne hlt)];rfl) (sD_get hm) rfl (row_k hp.u1 (sD_k _) hp.u2) u9 rfl rfl ht) ?_
   repeat' first | refine s_ ?_ | fail
   refine kp [(0,.ref 0 0),(4,.d (.int .i64 0)),(5,.d (.int .i64 (z:Int))),(6,.d (.str m)),(10,rowV 1 1 p.u1 (sD c.una) p.u2),(11,.d (.int .i64 ((sD c.una).length:Int))),(12,.d (.int .i64 (z:Int)))] ⟨rfl,rfl,rfl,rfl,rfl,rfl,rfl,trivial⟩ ?_
   refine gTab (A:={ q:List D×List D // Pp.Ok { p with t1:=q.1,t2:=q.2 } }) (m1:=fun q=>ChM { c with tos:=pushT T ⟨1,IntKind.i64.wrap (c.base + (z:Int)),m⟩ } { p with t1:=q.1.1,t2:=q.1.2 }) (m2:=fun q=>ChM { c with tos:=pushT T ⟨1,IntKind.i64.wrap (c.base + (z:Int)),m⟩ } { p with t1:=q.1.1,t2:=q.1.2 })
    11 12 [] (nrefL [4]) [(0,17,.ref 0 0),(1,18,.ref 0 0),(2,19,.ref 0 8),(3,20,.ref 0 0),(4,21,.ref 0 0),(5,22,.ref 0 1),(6,23,.d (.int .i64 c.base)),(7,24,.d (.int .i64 (z:Int))),(8,25,.d (.int .i64 (IntKind.i64.wrap (c.base + (z:Int))))),(9,26,.d (.str m)),(10,27,.d (.agg [.int .i64 1,.int .i64 (IntKind.i64.wrap (c.base + (z:Int))),.str m]))]
    [] 28 (fun _=>.tup []) ⟨(a,b2),hok⟩ [0,1,2,3,4,5,6,7,8,9,10]
    (by exact rfl) mixed (by kernel_rfl) rfl (by kernel_rfl) rfl rfl rfl rfl rfl rfl rfl (by exact rfl) (fun rest Q' hQ=>?_) (fun q=>?_) rfl (by kernel_rfl) (fun _ _=>rfl) (fun q=>?_)
   · exact cjs (c:={ c with tos:=T }) (q:=⟨1,IntKind.i64.wrap (c.base + (z:Int)),m⟩) (p:={ p with t1:=a,t2:=b2 }) (by exact rfl) hok (fun a' b' hok'=>hQ ⟨(a',b'),hok'⟩)
   · refine ⟨?_,?_,?_,?_,?_,?_,?_,?_,?_,?_,?_,trivial⟩
     all_goals exact ta_
   · repeat' first | refine s_ ?_ | fail
     rw [show IntKind.i64.wrap ((z:Int) + 1)=((z + 1:Nat):Int) by rw [wrap_i64 (by omega) (by omega)];rfl]
     exact toL (hn _ (z + 1,pushT T ⟨1,IntKind.i64.wrap (c.base + (z:Int)),m⟩,q.1.1,q.1.2) ⟨hlt,q.2,hinv⟩ (by dsimp only;omega) (leK ⟨rfl,rfl,rfl,rfl,rfl,trivial⟩))
 · have hle:c.una.length≤z:=by have:=of_decide_eq_false hb;rw [sD_len] at this;omega
   rw [List.drop_eq_nil_of_le hle,tickL] at hinv
   repeat' first | refine s_ ?_ | fail
   refine Z15 ?_
   repeat' first | refine s_ ?_ | fail
   have ht:tickC c={ c with tos:=T }:=by unfold tickC;rw [hinv]
   rw [ht]
   exact enj (mem':=ChM { c with tos:=T } { p with t1:=a,t2:=b2 }) (by exact rfl) ⟨rfl,_,hok,rfl⟩ (ChM_sub { c with tos:=T } { p with t1:=a,t2:=b2 } [])
end
section
variable {K:Ctx} {s:GS} {t:Nat} {x:Operand} {ty rt:TypeId} {pos:String} {af:Array Edge}
theorem Q_mkAny {e:TypeId} {g:Option (Nat×Bool)} (hu:K.P.underlying ty=some (.pointer e)):Qy K ⟨some t,.makeInterface ty x,rt,pos,af,g⟩ s t .undef:=
 fun S O m a w h=>⟨.iface ty (a.eval x),fun w' _=>by simp [execOp,Instr.makeInterface,run_underlying hu],.undef _ _⟩
theorem Q_mkInt {g:Option (Nat×Bool)} {k:IntKind} {n:Int} (hu:K.P.underlying ty=some (.int k)) (hx:s.ev x=.d (.int k n)):Qy K ⟨some t,.makeInterface ty x,rt,pos,af,g⟩ s t (.d (.iface ty (.int k n))):=by
 refine fun S O m a w h=>?_
 obtain ⟨l,hr⟩:=h.ev x
 exact ⟨.iface ty (a.eval x),fun w' _=>by simp [execOp,Instr.makeInterface,run_underlying hu],.d _ _ _ (.iface _ _ _ ((by rw [hx] at hr;exact hr:RP w S O m l (.d (.int k n)) (a.eval x)).toD _ rfl))⟩
theorem Q_eqlNil {xt:TypeId} {g:Option (Nat×Bool)} (hl:∀ (w:World),(binOp .eql ty .nilIface .nilIface).run K.P w=.ok (.bool true) w) (hp:s.ev x=.d .nilI):Qy K ⟨some t,.binOp .eql ty x (.const .nilIface) xt,rt,pos,af,g⟩ s t (.d (.bool true)):=by
 refine fun S O m a w h=>?_
 obtain ⟨l,hr⟩:=h.ev x
 rw [hp] at hr
 generalize hav:a.eval x=v at hr
 cases hr with | d _ _ _ h1=>
 cases h1
 refine ⟨.bool true,fun w' _=>?_,.d _ _ _ (.bool _)⟩
 simp only [execOp,hav]
 simp [go_sem,Act.eval,hl]
theorem qaw {n:Nat} {S0:Reg} {O0:Owns} {w0:World} {m0 Bs:List Nat} {ds:List Deferred} {fr:List Fr} {Q:Exit→GS→Prop} {ops:Array Oper} {base pre:List (Nat×PV)} {ws:List Nat} {ms:List (List (List PV))} {i j:Nat} {es es':List (Nat×Nat×PV)} {g:Option Bool} {ob:List (Bool×Bool)} {o:Oper} {p:PV} {slx:List (Nat×PV)→List (Nat×PV)} (hs:see ops.toList i es base=some pre:=by exact rfl) (hj:nth nums (i + 1)=some j:=by exact rfl) (h:∀ rest,gview ops.toList n i (pre++rest)=some (t,g,ob,o,slx rest):=by exact fun _=>rfl) (hq:∀ rest X,isT g→t < n→Qy ⟨Tryd.prog,n,S0,O0,w0,m0,Bs,ds⟩ o ⟨slx rest,X⟩ t p) (hes:snocK es (i,t,whn g p) some=some es':=by exact rfl) (hc:COw ⟨Tryd.prog,n,S0,O0,w0,m0,Bs,ds⟩ fr ops base ws ms j es' Q) (hi:memN i ws=false:=by rfl) (ho:Obl ob:=by exact Obl.nil):COw ⟨Tryd.prog,n,S0,O0,w0,m0,Bs,ds⟩ fr ops base ws ms i es Q:=oAnyW hs hj hes hi hc fun rest X _ hg=>gqy (h rest) (hq rest X) hg ho
theorem caw {n:Nat} {S0:Reg} {O0:Owns} {w0:World} {m0 Bs:List Nat} {ds:List Deferred} {fr:List Fr} {Q:Exit→GS→Prop} {ops:Array Oper} {base pre:List (Nat×PV)} {ws:List Nat} {ms:List (List (List PV))} {i j:Nat} {es es':List (Nat×Nat×PV)} {f:FuncId} {args:List PV} {r:PV} (hs:see ops.toList i es base=some pre:=by exact rfl) (hj:nth nums (i + 1)=some j:=by exact rfl) (h:∀ rest,cms ops.toList n i (pre++rest)=some (t,f,args):=by exact fun _=>rfl) (hcl:Gm Tryd.prog f args [] r []) (hes:snocK es (i,t,r) some=some es':=by exact rfl) (hc:COw ⟨Tryd.prog,n,S0,O0,w0,m0,Bs,ds⟩ fr ops base ws ms j es' Q) (hargs:args=PV.rens (fun b=>([]:List Nat).getD b 0) args:=by rfl) (hra:PV.refsBs 0 args=true:=by rfl) (hr:r.ren (fun b=>([]:List Nat).getD b 0)=r:=by rfl) (hi:memN i ws=false:=by rfl):COw ⟨Tryd.prog,n,S0,O0,w0,m0,Bs,ds⟩ fr ops base ws ms i es Q:=oAnyW hs hj hes hi hc fun rest X _ hg=>E.gMs [] (h rest) hcl hargs .nil (fun b hb=>by cases hb) rfl hra rfl rfl hr rfl hg
def errD (n:Int):D:=if n=0 then .nilI else .iface 25 (.int .i64 n)
theorem c69 (s:ByteArray):Pf Tryd.prog 69 [.str s] (.tup [.d (deP s).d,.d (errD (deE s))]):=by
 have q12:=c12 s
 unfold Pk.d at q12 ⊢
 refine pfb Tryd.func69 Tryd.ntmps69 Tryd.results69 (fun S0 O0 w0 m0 hm0=>?_)
 repeat' first | refine s_ ?_ | refine c_ q12 ?_ | fail
 refine d_ (fun hb=>?_) (fun hb=>?_)
 · have h:¬ deE s=0:=by simpa using hb
   repeat' first | refine s_ ?_ | fail
   refine gq (by exact rfl) (fun _ ht=>Q_mkInt u25 rfl) ?_
   repeat' first | refine s_ ?_ | fail
   exact en (by exact rfl) (by unfold errD;rw [if_neg h])
 · have h:deE s=0:=by simpa using hb
   repeat' first | refine s_ ?_ | fail
   exact en (by exact rfl) (by unfold errD;rw [if_pos h])
theorem c70n:Gm Tryd.prog 70 [.d .nilI,.undef] [] (.d (.bool false)) []:=by
 refine gmB 0 Tryd.func70 Tryd.ntmps70 Tryd.results70 (fun S0 O0 w0 m0 hm0=>?_)
 repeat' first | refine s_ ?_ | fail
 refine gq (by exact rfl) (fun _ ht=>Q_eqlNil (fun w=>by kernel_rfl) rfl) ?_
 repeat' first | refine s_ ?_ | fail
 refine Z16 ?_
 repeat' first | refine s_ ?_ | fail
 exact enm (mem':=[]) (by exact rfl) rfl .nil
theorem c63 (s:ByteArray) (k:Int) (h:deE s=0):Pf Tryd.prog 63 [.str s,.int .i64 k] (.tup [.d (deP s).d,.d (.bool ((deP s).kd == k))]):=by
 have q69:=c69 s
 unfold errD at q69
 rw [if_pos h] at q69
 unfold Pk.d at q69 ⊢
 refine pfb Tryd.func63 Tryd.ntmps63 Tryd.results63 (fun S0 O0 w0 m0 hm0=>?_)
 repeat' (fail_if_success with_reducible refine ar 2 ?_);first | refine s_ ?_ | refine c_ q69 ?_ | fail
 refine Z8 ?_
 repeat' first | refine s_ ?_ | fail
 refine ow [11] [[[.d (.int .i64 0),.d (.int .i64 0),.d (.str { data:=#[] })],[.d (.int .i64 0)]],[[.d (.int .i64 (deP s).kd),.d (.int .i64 (deP s).nu),.d (.str (deP s).bo)],[.d (.int .i64 0)]]] (hc:=?_)
 refine Z12 ?_;refine Z12 ?_
 refine qaw (hs:=rfl) (hj:=rfl) (h:=fun _=>rfl) (hq:=fun rest X _ _=>Q_mkAny u121) (hc:=?_)
 refine caw (hcl:=c70n) (hc:=?_)
 iterate 7 refine aw (hc:=?_)
 refine sw 0 (hc:=?_)
 refine Z12 ?_;refine Z25 ?_
 repeat' first | refine s_ ?_ | fail
 exact en (by exact rfl) (by simp)
end
section
theorem ChM_sub8 (c:Ch) (p:Pp) (ms:List (List PV)):MSub 8 ((ChM c p++[[.ref 0 0]])++ms) (ChM c p++[[.ref 0 0]]):=by
 have h:CSub 8 (ChA c p 1 2 3 4 5 6) (ChA c p 1 2 3 4 5 6):=by
  unfold ChA
  repeat' first | exact .nil | refine .cons (.inl rfl) rfl ?_
 exact .cons h (.cons (CSub_flat _ _) (.cons (CSub_flat _ _) (.cons (CSub_flat _ _) (.cons (CSub_flat _ _) (.cons (CSub_flat _ _) (.cons (CSub_flat _ _) (.cons (.cons (.inl rfl) rfl .nil) .nil)))))))
theorem ChM_self8 (c:Ch) (p:Pp):MSub 8 (ChM c p++[[.ref 0 0]]) (ChM c p++[[.ref 0 0]]):=by
 have h:=ChM_sub8 c p []
 rwa [List.append_nil] at h
theorem c65 (c:Ch) (p:Pp):Gm Tryd.prog 65 [.ref 0 0] (ChM c p) (.fn (.func 71) [] [.ref 7 0]) (ChM c p++[[.ref 0 0]]):=by
 refine gmB 7 Tryd.func65 Tryd.ntmps65 Tryd.results65 (fun S0 O0 w0 m0 hm0=>?_)
 repeat' first | refine s_ ?_ | fail
 exact enm (mem':=ChM c p++[[PV.ref 0 0]]) (by exact rfl) rfl (ChM_self8 c p)
end
section
def recL (fn:FuncId) (tmps:Array Value) (ps:Array Tmp) (assign body:Code) (D:Nat):Loop:={ state:=.ready,pending:=none,fn,tmps,params:=ps,assign,body,defers:=D }
def Iter (f:FuncId) (jn:Nat) (S:Reg) (O:Owns) (m:List Nat) (mem:List (List PV)) (rec:Nat→Loop) (vc:Array Value) (T:List (List PV)→Prop):Prop:=
 ∀ (l:Nat) (W:World),Env S O W S O m mem W→W.heap[l]? = some (.loop (rec l))→O l=none→(∀ i,¬ S l i)→
  Calls Tryd.prog f (#[.func (.yield l) #[] #[]]++vc) W fun e W2=>∃ v S' O' m' mem',e=.returned v∧T mem'∧Env S O W S' O' m' mem' W2∧m.take jn <+: m'∧W2.heap[l]? = some (.loop (rec l))
theorem range_call {K:Ctx} (hP:K.P=Tryd.prog) {S:Reg} {O:Owns} {m:List Nat} {s:GS} {a:Act} {w:World} {t:Nat} {ps:Array Tmp} {assign body:Code} {f:FuncId} {caps:List PV} {fn:Func} {Post:Exit→Act→World→Prop} (jn:Nat) (T:List (List PV)→Prop)
 (hr:Rep K S O m s a w) (hg:s.get t=some (.fn (.func f) [] caps)) (hf:Tryd.prog.funcs[f]? = some fn) (hb:fn.body.isSome=true) (hn:(fn.name == "runtime.NumGoroutine")=false) (hd:a.defers=[])
 (hit:∀ (fnid D:Nat) (vc:Array Value),vc.size=caps.length→(∀ (W:World),(∀ q,q < w.heap.size→W.heap[q]? = w.heap[q]?)→Ext S w W→∀ (i:Nat) p v,caps[i]? = some p→vc[i]? = some v→∃ l',RP W S O m l' p v)→Iter f jn S O m s.mem (fun _=>recL fnid a.tmps ps assign body D) vc T)
 (next:∀ (S':Reg) (O':Owns) (m':List Nat) (mem':List (List PV)) (W3:World) (D:Nat),T mem'→Env K.S0 K.O0 K.w0 S' O' m' mem' W3→Env S O w S' O' m' mem' W3→m.take jn <+: m'→W3.heap[D]? = some (.deferred (some []))→w.heap.size≤D→O' D=none→(∀ i,¬ S' D i)→Post .normal { a with defers:=[{ target:=.collected D,args:=#[] }] } W3):
 (Code.rangeFunc (.tmp t) ps assign body).wp Tryd.prog Post a w:=by
 rw [← wpIn_wide (n:=3)]
 refine wpIn_rangeFunc fun fnid _=>?_
 have hv:=hr.slots t _ hg
 obtain ⟨vc,hval,hvc,hcaps⟩:∃ vc:Array Value,a.tmps.getD t undef=.func (.func f) #[] vc∧vc.size=caps.length∧∀ (i:Nat) p v,caps[i]? = some p→vc[i]? = some v→RP w S O m (i :: 1 :: [t,0]) p v:=by
  generalize a.tmps.getD t undef=v at hv
  cases hv with
  | fn _ _ _ _ vf vc h1 h2 g1 g2=>
   have:vf=#[]:=Array.eq_empty_of_size_eq_zero h1
   subst this
   exact ⟨vc,rfl,h2,g2⟩
 have hev:a.eval (.tmp t)=.func (.func f) #[] vc:=hval
 let rec0:=recL fnid a.tmps ps assign body w.heap.size
 let W1:=(w.alloc (.deferred (some []))).alloc (.loop rec0)
 have h1:Rep K S O m s a W1:=(hr.allocd _).allocd _
 have hE1:Ext S w W1:=(ext_alloc S w _ hr.env.slt).trans (ext_alloc S _ _ (hr.allocd _).env.slt) (fun _ _ h=>h)
 have hold:∀ q,q < w.heap.size→W1.heap[q]? = w.heap[q]?:=fun q hq=>by
  rw [show W1.heap[q]? = _ from heap_alloc_old' _ _ q (by simp;omega)]
  exact heap_alloc_old' _ _ q hq
 have hL1:W1.heap[w.heap.size + 1]? = some (.loop rec0):=by
  have:=heap_alloc_new' (w.alloc (.deferred (some []))) (.loop rec0)
  rwa [show (w.alloc (.deferred (some []))).heap.size=w.heap.size + 1 by simp] at this
 have hK1:W1.heap[w.heap.size]? = some (.deferred (some [])):=by
  rw [show W1.heap[w.heap.size]? = _ from heap_alloc_old' (w.alloc (.deferred (some []))) (.loop rec0) w.heap.size (by simp)]
  exact heap_alloc_new' _ _
 have hnS:∀ q,w.heap.size≤q→(∀ i,¬ S q i)∧O q=none:=fun q hq=>⟨fun i hi=>absurd (hr.env.slt q i hi) (Nat.not_lt_of_le hq),by
  cases hO:O q with
  | none=>rfl
  | some x=>obtain ⟨l',t'⟩:=x;exact absurd (hr.env.olt q l' t' hO) (Nat.not_lt_of_le hq)⟩
 have hreb:Env S O W1 S O m s.mem W1:=h1.env.rebase
 have hz:=hit fnid w.heap.size vc hvc (fun W hW hEW i p v hp hv=>⟨_,(hcaps i p v hp hv).ext hEW (fun _ _ h=>h) (fun _ _ _ h=>h) (fun _ _ h=>h)⟩) (w.heap.size + 1) W1 hreb hL1 (hnS _ (by omega)).2 (hnS _ (by omega)).1
 refine ⟨w.heap.size + 1,[{ target:=.collected w.heap.size,args:=#[] }],W1,{ target:=.fn (.func f) vc,args:=#[.func (.yield (w.heap.size + 1)) #[] #[]] },W1,f,#[.func (.yield (w.heap.size + 1)) #[] #[]]++vc,W1,?_,?_,fun _ _=>trivial,?_,(fun h=>by cases h),?_⟩
 · exact run_enterLoop_outer _ _ _ _ _
 · simp only [resolve,hev]
   simp [go_sem]
 · simp [invoke,go_sem,run_callFunc hf hb hn]
 · refine callsIn_wide.2 (Calls.mono hz ?_)
   rintro e W2 ⟨v,S',O',m',mem',rfl,hT,henv,hpm,hl2⟩
   have hlw1:∀ q,w.heap.size≤q→q < W1.heap.size→(∀ i,¬ S' q i)∧O' q=none∧W2.heap[q]? = W1.heap[q]?:=fun q hq hq2=>henv.apart hq2 (hnS q hq).1 (hnS q hq).2
   have hsz:W1.heap.size=w.heap.size + 2:=by show ((w.alloc _).alloc _).heap.size=_;simp
   obtain ⟨hS2,hO2,_⟩:=hlw1 (w.heap.size + 1) (by omega) (by omega)
   obtain ⟨hS3,hO3,hD2⟩:=hlw1 w.heap.size (by omega) (by omega)
   refine ⟨none,_,run_endLoop hl2 (by show LoopState.ready ≠ .busy;decide),?_⟩
   have hne:w.heap.size ≠ w.heap.size + 1:=by omega
   have henvK:Env K.S0 K.O0 K.w0 S' O' m' mem' W2:=Env.trans h1.env henv
   have henvw:Env S O w S' O' m' mem' W2:=Env.trans (((hr.env.rebase:Env S O w S O m s.mem w).allocd' _).allocd' _) henv
   have hsz0:K.w0.heap.size≤w.heap.size:=hr.env.ext.size
   have hda:([{ target:=.collected w.heap.size,args:=#[] }]:List Deferred)++a.defers=[{ target:=.collected w.heap.size,args:=#[] }]:=by rw [hd];rfl
   rw [hda]
   refine next S' O' m' mem' _ w.heap.size hT ?_ ?_ hpm ?_ (Nat.le_refl _) hO3 hS3
   · exact henvK.putObj _ (by omega) hl2 (fun _ _ _ h=>by cases h) (fun _ _ _ h=>by cases h) hS2 hO2
   · exact henvw.putObj _ (by omega) hl2 (fun _ _ _ h=>by cases h) (fun _ _ _ h=>by cases h) hS2 hO2
   · rw [World.putObj_heap_other hne,hD2];exact hK1
end
end Go.Proofs.YtoonleefemkalaaDoor
