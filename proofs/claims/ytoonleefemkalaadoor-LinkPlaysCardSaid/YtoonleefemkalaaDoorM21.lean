import Derived.Test.YtoonleefemkalaaDoorM20
import Derived.Test.YtoonleefemkalaaDoorM16
import Derived.Shelf.Slices.Cells
import Derived.Lib.OwnBridge
/- Contracts of functions. Conditions: none. -/
set_option linter.unusedSimpArgs false
set_option linter.unusedVariables false
set_option maxRecDepth 20000
namespace Go.Proofs.YtoonleefemkalaaDoor
open Go Go.Proofs.YtoonleefemkalaaDoor.E
section
def idxL {α:Type} (p:α→Bool) (xs:List α):Int:=match xs.findIdx? p with | some i=>i | none=>-1
variable {z:Nat}
theorem idxL_step {α:Type} {p:α→Bool} {xs:List α} {x:α} (h:∀ i,i < z→∀ y,xs[i]? = some y→p y=false) (hx:xs[z]? = some x) (hb:p x=false):∀ i,i < z + 1→∀ y,xs[i]? = some y→p y=false:=fun i hi y hy=>by
 by_cases hiz:i=z
 · subst hiz;rw [hx] at hy;injection hy with hy;subst hy;exact hb
 · exact h i (by omega) y hy
theorem idxL_found {α:Type} {p:α→Bool} {xs:List α} {x:α} (h:∀ i,i < z→∀ y,xs[i]? = some y→p y=false) (hx:xs[z]? = some x) (hb:p x=true):PV.d (.int .i64 (z:Nat))=PV.d (.int .i64 (idxL p xs)):=by
 have hlt:=(lG hx)
 have hxe:xs[z]=x:=by rw [gE hlt] at hx;injection hx
 have:xs.findIdx? p=some z:=by
  rw [List.findIdx?_eq_some_iff_getElem]
  exact ⟨hlt,by rw [hxe];exact hb,fun j hj=>by simpa using h j hj xs[j] (gE (by omega))⟩
 simp [idxL,this]
theorem idxL_none {α:Type} {p:α→Bool} {xs:List α} (h:∀ i,i < xs.length→∀ y,xs[i]? = some y→p y=false):PV.d (.int .i64 (-1))=PV.d (.int .i64 (idxL p xs)):=by
 have:xs.findIdx? p=none:=by
  rw [List.findIdx?_eq_none_iff]
  intro x hx
  obtain ⟨i,hi⟩:=List.getElem?_of_mem hx
  exact h i (lG hi) x hi
 simp [idxL,this]
variable {α:Type}
theorem idxL_any (p:α→Bool) (xs:List α):decide (idxL p xs ≥ 0)=xs.any p:=by
 unfold idxL
 cases h:xs.findIdx? p with
 | none=>
  rw [List.findIdx?_eq_none_iff] at h
  simp;exact h
 | some i=>
  rw [List.findIdx?_eq_some_iff_getElem] at h
  obtain ⟨h1,h2,_⟩:=h
  have:xs.any p=true:=by rw [List.any_eq_true];exact ⟨xs[i],List.getElem_mem h1,h2⟩
  rw [this];simp
def lngP (m:Int) (s:ByteArray):Bool:=decide ((s.size:Int) > m)
theorem str_get {l:List ByteArray} {x:ByteArray} (h:l[z]? = some x):(l.map D.str)[z]? = some (.str x):=by rw [List.getElem?_map,h];rfl
theorem c55 (s:ByteArray) (m:Int):Pf Tryd.prog 55 [.str s,.ptr (.int .i64 m)] (.d (.bool (lngP m s))):=by
 refine pfb Tryd.func55 Tryd.ntmps55 Tryd.results55 (fun S0 O0 w0 m0 hm0=>?_)
 repeat' first | refine s_ ?_ | fail
 exact e_
theorem c62 (l:List ByteArray) (m:Int) (hl:l.length≤140737488355328):Pf Tryd.prog 62 [.sl (l.map D.str),.fn (.func 55) [] [.ptr (.int .i64 m)]] (.d (.int .i64 (idxL (lngP m) l))):=by
 refine pfb Tryd.func62 Tryd.ntmps62 Tryd.results62 (fun S0 O0 w0 m0 hm0=>?_)
 repeat' first | refine s_ ?_ | fail
 have hlen:(l.map D.str).length=l.length:=List.length_map ..
 refine gLo (fun z:Nat=>⟨[(0,.d (.sl (l.map D.str))),(1,.d (.fn (.func 55) [] [.ptr (.int .i64 m)])),(7,.d (.int .i64 ((l.map D.str).length:Int))),(8,.d (.int .i64 (z:Int)))],[]⟩) (fun z=>l.length - z) (fun z=>∀ i,i < z→∀ y,l[i]? = some y→lngP m y=false) 0 (fun i hi=>absurd hi (Nat.not_lt_zero _)) le_of (fun z hz Q' hn he hr hp=>?_)
 repeat' first | refine s_ ?_ | fail
 refine d_ (fun hb=>?_) (fun hb=>?_)
 · have hlt:z < l.length:=by have:=oR hb;omega
   obtain ⟨x,hgx⟩:∃ x,l[z]? = some x:=⟨_,gE hlt⟩
   repeat' first | refine s_ ?_ | fail
   refine el (by exact rfl) (str_get hgx) ?_ (by omega)
   repeat' first | refine s_ ?_ | refine cl (by exact rfl) (c55 x m) ?_ | fail
   by_cases hx:lngP m x=true
   · refine ct (by exact rfl) ?_ hx
     repeat' first | refine s_ ?_ | fail
     refine Z28 ?_
     repeat' first | refine s_ ?_ | fail
     exact en (by exact rfl) (idxL_found hz hgx hx)
   · refine cf (by exact rfl) ?_ (eq_false_of_ne_true hx)
     repeat' first | refine s_ ?_ | fail
     rw [show IntKind.i64.wrap ((z:Int) + 1)=((z + 1:Nat):Int) by rw [wrap_i64 (by omega) (by omega)];rfl]
     exact Y7
 · have hlt:l.length≤z:=by have:=of_decide_eq_false hb;omega
   repeat' first | refine s_ ?_ | fail
   refine Z15 ?_
   repeat' first | refine s_ ?_ | fail
   exact en (by exact rfl) (idxL_none fun i hi y hy=>hz i (by omega) y hy)
theorem c54 (l:List ByteArray) (m:Int) (hl:l.length≤140737488355328):Pf Tryd.prog 54 [.sl (l.map D.str),.fn (.func 55) [] [.ptr (.int .i64 m)]] (.d (.bool (l.any (lngP m)))):=by
 refine pfb Tryd.func54 Tryd.ntmps54 Tryd.results54 (fun S0 O0 w0 m0 hm0=>?_)
 repeat' first | refine s_ ?_ | refine cl (by exact rfl) (c62 l m hl) ?_ | fail
 exact en (by exact rfl) (by rw [← idxL_any])
theorem c38 (l:List ByteArray) (m:Int) (hl:l.length≤140737488355328):Pf Tryd.prog 38 [.sl (l.map D.str),.int .i64 m] (.d (.bool (l.any (lngP m)))):=by
 refine pfb Tryd.func38 Tryd.ntmps38 Tryd.results38 (fun S0 O0 w0 m0 hm0=>?_)
 repeat' (fail_if_success refine fz false (s:=⟨_,[_]⟩) (by exact rfl) ?_);first | refine s_ ?_ | fail
 refine fz false (by exact rfl) ?_
 repeat' first | refine s_ ?_ | refine cl (by exact rfl) (c54 l m hl) ?_ | fail
 exact e_
end
section
structure Ch where
 win:Int
 base:Int
 nxt:Int
 una:List ByteArray
 wai:List ByteArray
 exp:Int
 ear:List Pk
 del:List ByteArray
 tos:List ByteArray
 bak:List ByteArray
def strs (l:List ByteArray):D:=.sl (l.map D.str)
def Ch.d (c:Ch):D:=.agg [.int .i64 c.win,.int .i64 c.base,.int .i64 c.nxt,strs c.una,strs c.wai,.int .i64 c.exp,.sl (c.ear.map Pk.d),strs c.del,strs c.tos,strs c.bak]
theorem pk_get {l:List Pk} {z:Nat} {x:Pk} (h:l[z]? = some x):(l.map Pk.d)[z]? = some x.d:=by rw [List.getElem?_map,h];rfl
def earB (nxt:Int):Int→List Pk→Bool
 | _,[]=>true
 | last,p :: r=>!(p.kd != 1 || decide (p.nu≤last) || decide (p.nu ≥ nxt) || decide ((p.bo.size:Int) > 200)) && earB nxt p.nu r
def chk1 (c:Ch):Bool:=decide (c.win < 1) || decide (c.win > 16) || decide (c.base < 0) || decide (c.base > c.nxt) || IntKind.i64.wrap (c.nxt - c.base) != (c.una.length:Int) || decide ((c.una.length:Int) > c.win)
def chk2 (c:Ch):Bool:=(decide ((c.una.length:Int) < c.win) && decide ((c.wai.length:Int) > 0)) || decide (c.nxt > 10000) || decide (IntKind.i64.wrap (c.nxt + (c.wai.length:Int)) > 10000)
def chk3 (c:Ch):Bool:=decide (c.exp < c.base) || decide (c.exp > c.nxt) || c.exp != (c.del.length:Int)
def chk4 (c:Ch):Bool:=c.una.any (lngP 200) || c.wai.any (lngP 200) || c.del.any (lngP 200)
def chk5 (c:Ch):Bool:=decide ((c.tos.length:Int) > 200) || decide ((c.bak.length:Int) > 200) || c.tos.any (lngP 212) || c.bak.any (lngP 212)
def chkC (c:Ch):Bool:=chk1 c || chk2 c || chk3 c || !earB c.nxt c.exp c.ear || chk4 c || chk5 c
theorem c16 (c:Ch) (h0:c.una.length≤140737488355328) (h1:c.wai.length≤140737488355328) (h2:c.ear.length≤140737488355328) (h3:c.del.length≤140737488355328) (h4:c.tos.length≤140737488355328) (h5:c.bak.length≤140737488355328):Pf Tryd.prog 16 [c.d] (.d (.int .i64 (if chkC c=true then 331 else 0))):=by
 have l0:(c.una.map D.str).length=c.una.length:=List.length_map ..
 have l1:(c.wai.map D.str).length=c.wai.length:=List.length_map ..
 have l3:(c.del.map D.str).length=c.del.length:=List.length_map ..
 unfold Ch.d strs
 refine pfb Tryd.func16 Tryd.ntmps16 Tryd.results16 (fun S0 O0 w0 m0 hm0=>?_)
 repeat' (fail_if_success refine fz true (s:=⟨_,[_]⟩) (by exact rfl) ?_);first | refine s_ ?_ | fail
 refine Z8 ?_
 repeat' first | refine s_ ?_ | fail
 refine d_ (fun hb=>?_) (fun hb=>?_)
 · have hc:chk1 c=true:=by rw [l0] at hb;exact hb
   repeat' first | refine s_ ?_ | fail
   exact en (by exact rfl) (by unfold chkC;rw [hc];rfl)
 · have hc1:chk1 c=false:=by rw [l0] at hb;exact hb
   repeat' first | refine s_ ?_ | fail
   refine d_ (fun hb=>?_) (fun hb=>?_)
   · have hc:chk2 c=true:=by rw [l0,l1] at hb;exact hb
     repeat' first | refine s_ ?_ | fail
     exact en (by exact rfl) (by unfold chkC;rw [hc1,hc];rfl)
   have hc2:chk2 c=false:=by rw [l0,l1] at hb;exact hb
   repeat' first | refine s_ ?_ | fail
   refine d_ (fun hb=>?_) (fun hb=>?_)
   · have hc:chk3 c=true:=by rw [l3] at hb;exact hb
     repeat' first | refine s_ ?_ | fail
     exact en (by exact rfl) (by unfold chkC;rw [hc1,hc2,hc];rfl)
   have hc3:chk3 c=false:=by rw [l3] at hb;exact hb
   repeat' first | refine s_ ?_ | fail
   have le:(c.ear.map Pk.d).length=c.ear.length:=List.length_map ..
   refine gLo (fun x:Nat×Int=>⟨[(1,.d (.ptr (.agg [.int .i64 c.win,.int .i64 c.base,.int .i64 c.nxt,.sl (c.una.map D.str),.sl (c.wai.map D.str),.int .i64 c.exp,.sl (c.ear.map Pk.d),.sl (c.del.map D.str),.sl (c.tos.map D.str),.sl (c.bak.map D.str)]))),(4,.d (.int .i64 x.2)),(92,.d (.sl (c.ear.map Pk.d))),(93,.d (.int .i64 ((c.ear.map Pk.d).length:Int))),(94,.d (.int .i64 (x.1:Int)))],[]⟩) (fun x=>c.ear.length - x.1) (fun x=>x.1≤c.ear.length∧earB c.nxt c.exp c.ear=earB c.nxt x.2 (c.ear.drop x.1)) (0,c.exp) ⟨Nat.zero_le _,rfl⟩ le_of (fun x hx Q' hn he hr hp=>?_)
   obtain ⟨z,a⟩:=x
   obtain ⟨hz,hinv⟩:=hx
   dsimp only at hz hinv ⊢
   repeat' first | refine s_ ?_ | fail
   refine d_ (fun hb2=>?_) (fun hb2=>?_)
   · have hlt:z < c.ear.length:=by have:=oR hb2;omega
     obtain ⟨p,hp2⟩:∃ p,c.ear[z]? = some p:=⟨_,gE hlt⟩
     have hdr:c.ear.drop z=p :: c.ear.drop (z + 1):=by
      rw [List.drop_eq_getElem_cons hlt];rw [gE hlt] at hp2;injection hp2 with hp2;rw [hp2]
     rw [hdr,earB] at hinv
     repeat' first | refine s_ ?_ | fail
     refine el (by exact rfl) (pk_get hp2) ?_ (by omega)
     unfold Pk.d
     iterate 3 refine s_ ?_
     refine Z8 ?_
     repeat' first | refine s_ ?_ | fail
     refine d_ (fun hb3=>?_) (fun hb3=>?_)
     · have hbad:(p.kd != 1 || decide (p.nu≤a) || decide (p.nu ≥ c.nxt) || decide ((p.bo.size:Int) > 200))=true:=hb3
       rw [hbad] at hinv
       repeat' first | refine s_ ?_ | fail
       refine Z28 ?_
       repeat' first | refine s_ ?_ | fail
       exact en (by exact rfl) (by unfold chkC;rw [hc1,hc2,hc3,hinv];rfl)
     · have hgood:(p.kd != 1 || decide (p.nu≤a) || decide (p.nu ≥ c.nxt) || decide ((p.bo.size:Int) > 200))=false:=hb3
       rw [hgood] at hinv
       repeat' first | refine s_ ?_ | fail
       rw [show IntKind.i64.wrap ((z:Int) + 1)=((z + 1:Nat):Int) by rw [wrap_i64 (by omega) (by omega)];rfl]
       exact Y12
   · have hle:c.ear.length≤z:=by have:=of_decide_eq_false hb2;omega
     have hev:earB c.nxt c.exp c.ear=true:=by rw [hinv,List.drop_eq_nil_of_le hle];rfl
     have qa:=c38 c.una 200 h0
     have qb:=c38 c.wai 200 h1
     have qc:=c38 c.del 200 h3
     have qd:=c38 c.tos 212 h4
     have qe:=c38 c.bak 212 h5
     repeat' first | refine s_ ?_ | fail
     refine Z15 ?_
     repeat' first | refine s_ ?_ | refine c_ qa ?_ | refine clg (by exact rfl) (fun _=>qb) ?_ | refine clg (by exact rfl) (fun _=>qc) ?_ | fail
     refine d_ (fun hb4=>?_) (fun hb4=>?_)
     · have hc4:chk4 c=true:=hb4
       repeat' first | refine s_ ?_ | fail
       exact en (by exact rfl) (by unfold chkC;rw [hc1,hc2,hc3,hev,hc4];rfl)
     have hc4:chk4 c=false:=hb4
     have l4:(c.tos.map D.str).length=c.tos.length:=List.length_map ..
     have l5:(c.bak.map D.str).length=c.bak.length:=List.length_map ..
     repeat' first | refine s_ ?_ | refine clg (by exact rfl) (fun _=>qd) ?_ | refine clg (by exact rfl) (fun _=>qe) ?_ | fail
     refine d_ (fun hb5=>?_) (fun hb5=>?_)
     · have hc5:chk5 c=true:=by rw [l4,l5] at hb5;exact hb5
       repeat' first | refine s_ ?_ | fail
       exact en (by exact rfl) (by unfold chkC;rw [hc1,hc2,hc3,hev,hc4,hc5];rfl)
     · have hc5:chk5 c=false:=by rw [l4,l5] at hb5;exact hb5
       repeat' first | refine s_ ?_ | fail
       exact en (by exact rfl) (by unfold chkC;rw [hc1,hc2,hc3,hev,hc4,hc5];rfl)
end
section
structure Pp where
 u1:List D
 u2:List D
 w1:List D
 w2:List D
 d1:List D
 d2:List D
 t1:List D
 t2:List D
 b1:List D
 b2:List D
 e1:List D
 e2:List D
def p0:Pp:=⟨[],[],[],[],[],[],[],[],[],[],[],[]⟩
def sD (l:List ByteArray):List D:=l.map D.str
def pD (l:List Pk):List D:=l.map Pk.d
structure Pp.Ok (p:Pp):Prop where
 u1:∀ x ∈ p.u1,x.cells.length=1
 u2:∀ x ∈ p.u2,x.cells.length=1
 w1:∀ x ∈ p.w1,x.cells.length=1
 w2:∀ x ∈ p.w2,x.cells.length=1
 d1:∀ x ∈ p.d1,x.cells.length=1
 d2:∀ x ∈ p.d2,x.cells.length=1
 t1:∀ x ∈ p.t1,x.cells.length=1
 t2:∀ x ∈ p.t2,x.cells.length=1
 b1:∀ x ∈ p.b1,x.cells.length=1
 b2:∀ x ∈ p.b2,x.cells.length=1
 e1:∀ x ∈ p.e1,x.cells.length=3
 e2:∀ x ∈ p.e2,x.cells.length=3
theorem p0_ok:p0.Ok:=by constructor<;>intro x hx<;>cases hx
theorem sD_len (l:List ByteArray):(sD l).length=l.length:=List.length_map ..
theorem pD_len (l:List Pk):(pD l).length=l.length:=List.length_map ..
theorem sD_k (l:List ByteArray):∀ x ∈ sD l,x.cells.length=1:=fun x hx=>by
 obtain ⟨y,_,rfl⟩:=List.mem_map.1 hx;rfl
theorem pD_k (l:List Pk):∀ x ∈ pD l,x.cells.length=3:=fun x hx=>by
 obtain ⟨y,_,rfl⟩:=List.mem_map.1 hx;rfl
theorem row_k {k:Nat} {a b c:List D} (ha:∀ x ∈ a,x.cells.length=k) (hb:∀ x ∈ b,x.cells.length=k) (hc:∀ x ∈ c,x.cells.length=k):∀ x ∈ a++b++c,x.cells.length=k:=fun x hx=>by
 rcases List.mem_append.1 hx with hx | hx
 · rcases List.mem_append.1 hx with hx | hx
   · exact ha x hx
   · exact hb x hx
 · exact hc x hx
def rowV (b k:Nat) (pre xs post:List D):PV:=.rsl b (rlo k pre xs post) xs.length k
def ChA (c:Ch) (p:Pp) (u w d t b e:Nat):List PV:=
 [.d (.int .i64 c.win),.d (.int .i64 c.base),.d (.int .i64 c.nxt),rowV u 1 p.u1 (sD c.una) p.u2,rowV w 1 p.w1 (sD c.wai) p.w2,.d (.int .i64 c.exp),rowV e 3 p.e1 (pD c.ear) p.e2,rowV d 1 p.d1 (sD c.del) p.d2,rowV t 1 p.t1 (sD c.tos) p.t2,rowV b 1 p.b1 (sD c.bak) p.b2]
def ChR (c:Ch) (p:Pp):List (List PV):=[flat (p.u1++sD c.una++p.u2),flat (p.w1++sD c.wai++p.w2),flat (p.d1++sD c.del++p.d2),flat (p.t1++sD c.tos++p.t2),flat (p.b1++sD c.bak++p.b2),flat (p.e1++pD c.ear++p.e2)]
def ChM (c:Ch) (p:Pp):List (List PV):=ChA c p 1 2 3 4 5 6 :: ChR c p
theorem ChR_rens (f:Nat→Nat) (c:Ch) (p:Pp):(ChR c p).map (PV.rens f)=ChR c p:=by simp only [ChR,List.map_cons,List.map_nil,rens_flat]
theorem ChA_rens (f:Nat→Nat) (c:Ch) (p:Pp) (u w d t b e:Nat):PV.rens f (ChA c p u w d t b e)=ChA c p (f u) (f w) (f d) (f t) (f b) (f e):=rfl
theorem ChM_rens (f:Nat→Nat) (c:Ch) (p:Pp):(ChM c p).map (PV.rens f)=ChA c p (f 1) (f 2) (f 3) (f 4) (f 5) (f 6) :: ChR c p:=by
 rw [ChM,List.map_cons,ChR_rens,ChA_rens]
theorem refs_flat (n:Nat):∀ xs:List D,PV.refsBs n (flat xs)=true
 | []=>rfl
 | x :: xs=>by
  rw [flat_cons]
  have h1:∀ (ds:List D) (ps:List PV),PV.refsBs n ps=true→PV.refsBs n (ds.map PV.d++ps)=true:=by
   intro ds
   induction ds with
   | nil=>exact fun _ h=>h
   | cons d ds ih=>intro ps h;show (true && PV.refsBs n (ds.map PV.d++ps))=true;rw [ih ps h];rfl
  exact h1 _ _ (refs_flat n xs)
theorem ChR_refs (n:Nat) (c:Ch) (p:Pp):(ChR c p).all (PV.refsBs n)=true:=by simp only [ChR,List.all_cons,List.all_nil,refs_flat,Bool.and_self]
theorem rowV0 (b k:Nat) (xs:List D):PV.rsl b 0 xs.length k=rowV b k [] xs []:=by rw [rowV,rlo_zero]
theorem rowF0 (xs:List D):flat xs=flat ([]++xs++[]):=by simp
structure Ch.Few (c:Ch):Prop where
 una:c.una.length≤1000000
 wai:c.wai.length≤1000000
 ear:c.ear.length≤1000000
 del:c.del.length≤1000000
 tos:c.tos.length≤1000000
 bak:c.bak.length≤1000000
theorem nrefs_map_d (b:Nat):∀ ds:List D,PV.nrefs b (ds.map PV.d)=true
 | []=>rfl
 | _ :: ds=>by simp only [List.map_cons,PV.nrefs,PV.nref,nrefs_map_d b ds,Bool.and_self]
theorem nrefs_append (b:Nat):∀ xs ys:List PV,PV.nrefs b (xs++ys)=(PV.nrefs b xs && PV.nrefs b ys)
 | [],_=>by simp [PV.nrefs]
 | a :: xs,ys=>by simp only [List.cons_append,PV.nrefs,nrefs_append b xs ys,Bool.and_assoc]
theorem nrefs_flat (b:Nat):∀ xs:List D,PV.nrefs b (flat xs)=true
 | []=>rfl
 | x :: xs=>by rw [flat_cons,nrefs_append,nrefs_map_d,nrefs_flat b xs];rfl
def unk (n:Nat):List PV:=List.replicate n .undef
theorem CSub_unk (n:Nat):∀ l:List PV,CSub n l (unk l.length)
 | []=>.nil
 | _ :: l=>.cons (.inr (.inl rfl)) rfl (CSub_unk n l)
theorem ChR_sub (n:Nat) (c:Ch) (p:Pp):MSub n (ChR c p) (ChR c p):=.cons (CSub_flat _ _) (.cons (CSub_flat _ _) (.cons (CSub_flat _ _) (.cons (CSub_flat _ _) (.cons (CSub_flat _ _) (.cons (CSub_flat _ _) .nil)))))
theorem cn {n:Nat} {S0:Reg} {O0:Owns} {w0:World} {m0 Bs:List Nat} {ds:List Deferred} {fr:List Fr} {Q:Exit→GS→Prop} {ops:Array Oper} {i:Nat} {l:List Nat} {sl:List (Nat×PV)} {mem mem1 mem':List (List PV)} {t:Nat} {f:FuncId} {args:List PV} {r r':PV} (h:cms ops.toList n i sl=some (t,f,args)) (hc:Gm Tryd.prog f args [] r mem1) (hg:GF ⟨Tryd.prog,n,S0,O0,w0,m0,Bs,ds⟩ fr (.ops ops l) Q ⟨(t,r') :: sl,mem'⟩) (hr:r.ren (renN [] mem.length)=r':=by rfl) (hm:mem++mem1.map (PV.rens (renN [] mem.length))=mem') (hargs:args=PV.rens (fun b=>([]:List Nat).getD b 0) args:=by rfl) (hra:PV.refsBs 0 args=true:=by rfl):GF ⟨Tryd.prog,n,S0,O0,w0,m0,Bs,ds⟩ fr (.ops ops (i :: l)) Q ⟨sl,mem⟩:=gNew h hc hargs hra hr hm (nrefLM_nil _ _) hg
theorem c40 (c:Ch) (h:c.Few):Gm Tryd.prog 40 [.d c.d] [] (.agg (ChA c p0 3 4 5 6 7 8)) ([unk 10,unk 10,unk 5]++ChR c p0):=by
 have q1:=c56 (sD c.una) (sD_k _) (by rw [sD_len];exact h.una)
 have q2:=c56 (sD c.wai) (sD_k _) (by rw [sD_len];exact h.wai)
 have q3:=c56 (sD c.del) (sD_k _) (by rw [sD_len];exact h.del)
 have q4:=c56 (sD c.tos) (sD_k _) (by rw [sD_len];exact h.tos)
 have q5:=c56 (sD c.bak) (sD_k _) (by rw [sD_len];exact h.bak)
 have q6:=c57 (pD c.ear) (pD_k _) (by rw [pD_len];exact h.ear)
 refine gmB 0 Tryd.func40 Tryd.ntmps40 Tryd.results40 (fun S0 O0 w0 m0 hm0=>?_)
 repeat' first | refine s_ ?_ | fail
 refine gyl rfl rfl (Y_buildSliceR (ps:=[(0,3),(0,4),(0,7),(0,8),(0,9)]) (xs:=[.tmp 5,.tmp 6,.tmp 7,.tmp 8,.tmp 9]) u99 inf86 rfl rfl rfl rfl (by decide) (by decide) (Nat.le_of_ble_eq_true rfl)) ?_
 repeat' first | refine s_ ?_ | fail
 refine gRn 6 ?_
 repeat' first | refine s_ ?_ | fail
 refine Z16 ?_
 repeat' first | refine s_ ?_ | fail
 refine Z18 ?_
 repeat' first | refine s_ ?_ | fail
 refine cn (r':=.rsl 3 0 _ 1) (by exact rfl) q1 ?_ (hm:=by simp only [List.map_cons,List.map_nil,rens_flat,List.cons_append,List.nil_append];rfl)
 repeat' first | refine s_ ?_ | fail
 refine Z16 ?_
 repeat' first | refine s_ ?_ | fail
 refine Z18 ?_
 repeat' first | refine s_ ?_ | fail
 refine cn (r':=.rsl 4 0 _ 1) (by exact rfl) q2 ?_ (hm:=by simp only [List.map_cons,List.map_nil,rens_flat,List.cons_append,List.nil_append];rfl)
 repeat' first | refine s_ ?_ | fail
 refine Z16 ?_
 repeat' first | refine s_ ?_ | fail
 refine Z18 ?_
 repeat' first | refine s_ ?_ | fail
 refine cn (r':=.rsl 5 0 _ 1) (by exact rfl) q3 ?_ (hm:=by simp only [List.map_cons,List.map_nil,rens_flat,List.cons_append,List.nil_append];rfl)
 repeat' first | refine s_ ?_ | fail
 refine Z16 ?_
 repeat' first | refine s_ ?_ | fail
 refine Z18 ?_
 repeat' first | refine s_ ?_ | fail
 refine cn (r':=.rsl 6 0 _ 1) (by exact rfl) q4 ?_ (hm:=by simp only [List.map_cons,List.map_nil,rens_flat,List.cons_append,List.nil_append];rfl)
 repeat' first | refine s_ ?_ | fail
 refine Z16 ?_
 repeat' first | refine s_ ?_ | fail
 refine Z18 ?_
 repeat' first | refine s_ ?_ | fail
 refine cn (r':=.rsl 7 0 _ 1) (by exact rfl) q5 ?_ (hm:=by simp only [List.map_cons,List.map_nil,rens_flat,List.cons_append,List.nil_append];rfl)
 repeat' first | refine s_ ?_ | fail
 refine Z1 ?_
 repeat' first | refine s_ ?_ | fail
 refine cn (r':=.rsl 8 0 _ 3) (by exact rfl) q6 ?_ (hm:=by simp only [List.map_cons,List.map_nil,rens_flat,List.cons_append,List.nil_append];rfl)
 repeat' first | refine s_ ?_ | fail
 refine enm (mem':=[unk 10,unk 10,unk 5]++ChR c p0) (by exact rfl) ?_ ?_
 · simp only [rowV0];rfl
 · simp only [rowF0 (sD c.una),rowF0 (sD c.wai),rowF0 (sD c.del),rowF0 (sD c.tos),rowF0 (sD c.bak),rowF0 (pD c.ear)]
   exact .cons (CSub_unk _ _) (.cons (CSub_unk _ _) (.cons (CSub_unk _ _) (ChR_sub _ c p0)))
end
section
theorem gjB (jn:Nat) {f:FuncId} {fn:Func} {c:Code} {args:List PV} {mem:List (List PV)} {R:PV→List (List PV)→Prop} {n:Nat} {rvs:List ResultVar} {slots:List (Nat×PV)} (k:Nat) (hf:Tryd.prog.funcs[f]? = some fn) (hn:fn.ntmps=n) (hres:fn.results=rvs.toArray)
 (h:∀ S0 O0 w0 m0,m0.length=min jn k→GF ⟨Tryd.prog,n,S0,O0,w0,m0,[],[]⟩ [] (.code c) (E.Fin Tryd.prog rvs k R) ⟨slots,mem⟩)
 (hb:fn.body=some c:=by rfl) (hnm:(fn.name == "runtime.NumGoroutine")=false:=by rfl) (hal:args.length≤n:=by exact oR rfl) (hsl:(List.range args.length).zip args=slots:=by rfl) (hk:mem.length=k:=by rfl):Gj jn Tryd.prog f args mem R:=
 ⟨⟨fn,hf,by rw [hb];rfl,hnm⟩,gcall_bodyJ jn n rvs slots k hf hb hn hal hres hsl hk h⟩
variable {K:Ctx}
theorem enj {rvs:List ResultVar} {sl:List (Nat×PV)} {mem mem':List (List PV)} {e:Exit} {k:Nat} {q:PV} {R:PV→List (List PV)→Prop} (h:E.endK tab sl mem rvs e=some q) (hr:R q mem') (hm:MSub mem'.length mem mem') (hb:PV.refsB mem'.length q=true:=by rfl) (hn:k≤mem'.length:=by exact oR rfl):GF K [] (.leave e) (E.Fin Tryd.prog rvs k R) ⟨sl,mem⟩:=gEndM tabOk h hb hn hm hr
theorem CSub_ChA (c:Ch) (p:Pp):CSub 7 (ChA c p 1 2 3 4 5 6) (ChA c p 1 2 3 4 5 6):=by
 unfold ChA
 repeat' first | exact .nil | refine .cons (.inl rfl) rfl ?_
theorem ChM_sub (c:Ch) (p:Pp) (ms:List (List PV)):MSub 7 (ChM c p++ms) (ChM c p):=
 .cons (CSub_ChA c p) (.cons (CSub_flat _ _) (.cons (CSub_flat _ _) (.cons (CSub_flat _ _) (.cons (CSub_flat _ _) (.cons (CSub_flat _ _) (.cons (CSub_flat _ _) .nil))))))
theorem sD_snoc (l:List ByteArray) (s:ByteArray):sD l++[.str s]=sD (l++[s]):=by simp [sD]
def Mt (f:FuncId) (args:List PV) (c:Ch) (r:PV) (c':Ch):Prop:=∀ p:Pp,p.Ok→Gj 1 Tryd.prog f args (ChM c p) (fun q m=>q=r∧∃ p':Pp,p'.Ok∧m=ChM c' p')
def sendT (c:Ch) (q:Pk):Ch:=if c.tos.length < 200 then { c with tos:=c.tos++[enC q] } else c
def sendB (c:Ch) (q:Pk):Ch:=if c.bak.length < 200 then { c with bak:=c.bak++[enC q] } else c
theorem J1 {A:Prop} (h:A:=by simp only [ChM,ChR,List.set_cons_zero,List.set_cons_succ,nrefM,nrefs_flat,Bool.or_true,Bool.true_and,Bool.and_true]<;>rfl):A:=h
theorem c58t (c:Ch) (q:Pk):Mt 58 [.ref 0 8,.d q.d] c (.tup []) (sendT c q):=by
 intro p hp
 have q10:=c10 q
 unfold Pk.d at q10 ⊢
 refine gjB 1 7 Tryd.func58 Tryd.ntmps58 Tryd.results58 (fun S0 O0 w0 m0 hm0=>?_)
 repeat' first | refine s_ ?_ | fail
 refine d_ (fun hb=>?_) (fun hb=>?_)
 · have hlt:c.tos.length < 200:=by have:=oR hb;rw [sD_len] at this;omega
   repeat' first | refine s_ ?_ | refine c_ q10 ?_ | refine bs (by exact rfl) ?_ | fail
   refine gCell 0 8 rfl rfl ?_ rfl rfl
   refine gApG (pre:=p.t1) (xs:=sD c.tos) (post:=p.t2) (ys:=[.str (enC q)]) rfl rfl rfl rfl rfl (by rw [hm0];decide) (by exact J1) rfl (by simp) (row_k hp.t1 (sD_k _) hp.t2) (by simp [D.cells]) (by decide) u35 inf9 rfl (by simp [Value.cells,Value.oneCell']) (by rw [sD_len];unfold lim;simp;omega) (by rw [sD_len];unfold lim;simp;omega) (Nat.le_of_ble_eq_true rfl) (fun a b hab=>?_)
   rw [← List.length_append,sD_snoc]
   repeat' first | refine s_ ?_ | fail
   have hs:sendT c q={ c with tos:=c.tos++[enC q] }:=if_pos hlt
   rw [hs]
   exact enj (mem':=ChM { c with tos:=c.tos++[enC q] } { p with t1:=a,t2:=b }) (by exact rfl) ⟨rfl,{ p with t1:=a,t2:=b },{ hp with t1:=fun x hx=>hab x (List.mem_append_left _ (List.mem_append_left _ hx)),t2:=fun x hx=>hab x (List.mem_append_right _ hx) },rfl⟩ (ChM_sub { c with tos:=c.tos++[enC q] } { p with t1:=a,t2:=b } [_])
 · have hs:sendT c q=c:=if_neg (by have:=of_decide_eq_false hb;rw [sD_len] at this;omega)
   rw [hs]
   repeat' first | refine s_ ?_ | fail
   exact enj (mem':=ChM c p) (by exact rfl) ⟨rfl,_,hp,rfl⟩ (ChM_sub c p [_])
theorem c58b (c:Ch) (q:Pk):Mt 58 [.ref 0 9,.d q.d] c (.tup []) (sendB c q):=by
 intro p hp
 have q10:=c10 q
 unfold Pk.d at q10 ⊢
 refine gjB 1 7 Tryd.func58 Tryd.ntmps58 Tryd.results58 (fun S0 O0 w0 m0 hm0=>?_)
 repeat' first | refine s_ ?_ | fail
 refine d_ (fun hb=>?_) (fun hb=>?_)
 · have hlt:c.bak.length < 200:=by have:=oR hb;rw [sD_len] at this;omega
   repeat' first | refine s_ ?_ | refine c_ q10 ?_ | refine bs (by exact rfl) ?_ | fail
   refine gCell 0 9 rfl rfl ?_ rfl rfl
   refine gApG (pre:=p.b1) (xs:=sD c.bak) (post:=p.b2) (ys:=[.str (enC q)]) rfl rfl rfl rfl rfl (by rw [hm0];decide) (by exact J1) rfl (by simp) (row_k hp.b1 (sD_k _) hp.b2) (by simp [D.cells]) (by decide) u35 inf9 rfl (by simp [Value.cells,Value.oneCell']) (by rw [sD_len];unfold lim;simp;omega) (by rw [sD_len];unfold lim;simp;omega) (Nat.le_of_ble_eq_true rfl) (fun a b hab=>?_)
   rw [← List.length_append,sD_snoc]
   repeat' first | refine s_ ?_ | fail
   have hs:sendB c q={ c with bak:=c.bak++[enC q] }:=if_pos hlt
   rw [hs]
   exact enj (mem':=ChM { c with bak:=c.bak++[enC q] } { p with b1:=a,b2:=b }) (by exact rfl) ⟨rfl,{ p with b1:=a,b2:=b },{ hp with b1:=fun x hx=>hab x (List.mem_append_left _ (List.mem_append_left _ hx)),b2:=fun x hx=>hab x (List.mem_append_right _ hx) },rfl⟩ (ChM_sub { c with bak:=c.bak++[enC q] } { p with b1:=a,b2:=b } [_])
 · have hs:sendB c q=c:=if_neg (by have:=of_decide_eq_false hb;rw [sD_len] at this;omega)
   rw [hs]
   repeat' first | refine s_ ?_ | fail
   exact enj (mem':=ChM c p) (by exact rfl) ⟨rfl,_,hp,rfl⟩ (ChM_sub c p [_])
theorem setAll_ChM (c c':Ch) (p p':Pp) (extra:List (List PV)) (n:Nat):setAll (ChM c p++extra) [0,1,2,3,4,5,6] (((ChM c' p').take 7).map (PV.rens (renN [0,1,2,3,4,5,6] n)))++((ChM c' p').drop 7).map (PV.rens (renN [0,1,2,3,4,5,6] n))=ChM c' p'++extra:=by
 rw [show (ChM c' p').take 7=ChM c' p' from rfl,show (ChM c' p').drop 7=[] from rfl,ChM_rens,List.map_nil,List.append_nil]
 rfl
theorem nrefL_flat (L:List Nat) (xs:List D):(L.all fun b=>PV.nrefs b (flat xs))=true:=List.all_eq_true.2 fun b _=>nrefs_flat b xs
def exB (L:List Nat) (extra:List (List PV)):Bool:=extra.all fun c=>L.all fun b=>PV.nrefs b c
theorem nrefLM_ex (L sel:List Nat):∀ (extra:List (List PV)) (k:Nat),exB L extra=true→nrefLM L sel k extra=true
 | [],_,_=>rfl
 | c :: r,k,h=>by
  unfold exB at h
  rw [List.all_cons,Bool.and_eq_true] at h
  show ((sel.contains k || L.all fun b=>PV.nrefs b c) && nrefLM L sel (k + 1) r)=true
  rw [h.1,nrefLM_ex L sel r (k + 1) h.2]
  simp
theorem ChM_nref (c:Ch) (p:Pp) (extra:List (List PV)) (h:exB [1,2,3,4,5,6] extra=true):nrefLM [1,2,3,4,5,6] [0,1,2,3,4,5,6] 0 (ChM c p++extra)=true:=by
 have h1:=nrefLM_ex [1,2,3,4,5,6] [0,1,2,3,4,5,6] extra 7 h
 show ((true || _) && ((true || _) && ((true || _) && ((true || _) && ((true || _) && ((true || _) && ((true || _) && _)))))))=true
 simp only [Bool.true_or,Bool.true_and]
 exact h1
variable {ops:Array Oper} {i t:Nat}
theorem cj {n:Nat} {S0:Reg} {O0:Owns} {w0:World} {m0 Bs:List Nat} {ds:List Deferred} {fr:List Fr} {Q:Exit→GS→Prop} {l:List Nat} {sl:List (Nat×PV)} {extra:List (List PV)} {f:FuncId} {args:List PV} {c c':Ch} {p:Pp} {r:PV} (h:cms ops.toList n i sl=some (t,f,args)) (hc:Mt f args c r c') (hp:p.Ok)
 (hg:∀ p',p'.Ok→GF ⟨Tryd.prog,n,S0,O0,w0,m0,Bs,ds⟩ fr (.ops ops l) Q ⟨(t,r) :: sansL [1,2,3,4,5,6] sl,ChM c' p'++extra⟩) (hm0:m0.length≤1:=by omega) (hargs:args=PV.rens (fun b=>[0,1,2,3,4,5,6].getD b 0) args:=by rfl) (hra:PV.refsBs 7 args=true:=by rfl) (hr:r.ren (renN [0,1,2,3,4,5,6] (ChM c p++extra).length)=r:=by rfl) (hx:exB [1,2,3,4,5,6] extra=true:=by rfl):GF ⟨Tryd.prog,n,S0,O0,w0,m0,Bs,ds⟩ fr (.ops ops (i :: l)) Q ⟨sl,ChM c p++extra⟩:=by
 refine gJ (jn:=1) [0,1,2,3,4,5,6] h (hc p hp) hargs (by decide) (fun b hb=>?_) ?_ hra ?_ (fun b hb=>?_) (ChM_nref c p extra hx) ?_
 · have:b < 7:=by
    have h:∀ b ∈ [0,1,2,3,4,5,6],b < 7:=by decide
    exact h b hb
   show b < (ChM c p++extra).length
   rw [List.length_append]
   have h7:(ChM c p).length=7:=rfl
   omega
 · rw [ChM_rens];rfl
 · show (ChM c p).all (PV.refsBs 7)=true
   exact Y6
 · have h1:1≤b:=by
    have h:∀ b ∈ [1,2,3,4,5,6],1≤b:=by decide
    exact h b hb
   exact Nat.le_trans hm0 h1
 · rintro q m ⟨rfl,p',hp',rfl⟩ _
   have h1:=setAll_ChM c c' p p' extra (ChM c p++extra).length
   have h2:stJ 1 [0,1,2,3,4,5,6] sl (ChM c p++extra) t q (ChM c' p')=⟨(t,q) :: sansL [1,2,3,4,5,6] sl,ChM c' p'++extra⟩:=by
    unfold stJ
    rw [hr]
    exact congrArg (GS.mk _) h1
   rw [h2]
   exact hg p' hp'
def dat (c:Ch) (m:ByteArray):Pk:=⟨1,c.nxt,m⟩
def nextC (c:Ch) (m:ByteArray):Ch:={ sendT { c with una:=c.una++[m] } ⟨1,c.nxt,m⟩ with nxt:=IntKind.i64.wrap ((sendT { c with una:=c.una++[m] } ⟨1,c.nxt,m⟩).nxt + 1) }
def Kps (sl:List (Nat×PV)):List (Nat×PV)→Prop
 | []=>True
 | (t,p) :: r=>sl.lookup t=some p∧Kps sl r
theorem Kps_get {sl:List (Nat×PV)}:∀ {l:List (Nat×PV)},Kps sl l→∀ t p,l.lookup t=some p→sl.lookup t=some p
 | [],_,_,_,h=>by cases h
 | (u,q) :: r,hk,t,p,h=>by
  rw [List.lookup_cons] at h
  cases htu:t == u with
  | true=>
   rw [htu] at h
   injection h with h
   have:t=u:=by simpa using htu
   rw [this,← h];exact hk.1
  | false=>rw [htu] at h;exact Kps_get hk.2 t p h
theorem kp (sl':List (Nat×PV)) {K:Ctx} {fr:List Fr} {c:Cf} {Q:Exit→GS→Prop} {sl:List (Nat×PV)} {mem:List (List PV)} (hk:Kps sl sl') (hg:GF K fr c Q ⟨sl',mem⟩) (hc:goes c=true:=by rfl):GF K fr c Q ⟨sl,mem⟩:=
 gLe (Le_slots (s:=⟨sl,mem⟩) (s':=⟨sl',mem⟩) rfl fun t p hp=>.inl (Kps_get hk t p hp)) hg hc
theorem tabC (X tX:Nat) (es:List (Nat×Nat×PV)) (nums:List Nat) {n:Nat} {S0:Reg} {O0:Owns} {w0:World} {m0 Bs:List Nat} {ds:List Deferred} {fr:List Fr} {Q:Exit→GS→Prop} {id:Nat} {ops:Array Oper} {sl base:List (Nat×PV)} {ds':List Nat} {extra:List (List PV)} {f:FuncId} {args:List PV} {c c':Ch} {p:Pp} {r:PV} {preX:List (Nat×PV)}
 (hb:baseK ops.toList sl=some (ds',base)) (hsX:pick (es++[]) (dsK [] ops X)++base=preX) (h:∀ rest,cms ops.toList n X (preX++rest)=some (tX,f,args)) (hc:Mt f args c r c') (hp:p.Ok)
 (hst:∀ a:{ q:Pp // q.Ok },eachN (TabOp ⟨Tryd.prog,n,S0,O0,w0,m0,Bs,ds⟩ ops [] base (es++(X,tX,r) :: []) X ops.size (ChM c p++extra) (ChM c' a.1++extra) (ChM c' a.1++extra)) nums)
 (hg:∀ p',p'.Ok→GF ⟨Tryd.prog,n,S0,O0,w0,m0,Bs,ds⟩ fr (.leave .normal) Q ⟨((es++(X,tX,r) :: []).filter fun (x:Nat×Nat×PV)=>(([]:List (Nat×Nat)).lookup x.1).isNone).map (·.2)++base,ChM c' p'++extra⟩)
 (hdep:((List.range ops.size).all fun i=>(depsOf ops i).all fun d=>Nat.blt d i)=true:=by kernel_rfl) (hXn:Nat.blt X ops.size=true:=by rfl) (hnums:((List.range ops.size).all fun i=>Nat.beq i X || memN i nums)=true:=by kernel_rfl)
 (hall:((es++[]).map (fun (x:Nat×Nat×PV)=>x.1)).all (fun i=>!Nat.beq i X)=true:=by rfl) (hnd:nodupB (tX :: (es++[]).map (fun (x:Nat×Nat×PV)=>x.2.1))=true:=by rfl) (hbase:(base.map (fun (x:Nat×PV)=>x.1)).all (fun t=>!(tX :: (es++[]).map (fun (x:Nat×Nat×PV)=>x.2.1)).contains t)=true:=by rfl) (hfi:((es++[]).map (fun (x:Nat×Nat×PV)=>x.1)).all (fun i=>Nat.blt i ops.size)=true:=by rfl)
 (hgd:(es++[]).all (fun (e:Nat×Nat×PV)=>nrefL [1,2,3,4,5,6] e.2.2 || (match ([]:List (Nat×Nat)).lookup e.1 with | some m=>Nat.beq m X | none=>false))=true:=by rfl) (hgb:base.all (fun (x:Nat×PV)=>nrefL [1,2,3,4,5,6] x.2)=true:=by rfl)
 (hm0:m0.length≤1:=by omega) (hargs:args=PV.rens (fun b=>[0,1,2,3,4,5,6].getD b 0) args:=by rfl) (hra:PV.refsBs 7 args=true:=by rfl) (hr:r.ren (renN [0,1,2,3,4,5,6] (ChM c p++extra).length)=r:=by rfl) (hx:exB [1,2,3,4,5,6] extra=true:=by rfl):GF ⟨Tryd.prog,n,S0,O0,w0,m0,Bs,ds⟩ fr (.code (.region id ops true)) Q ⟨sl,ChM c p++extra⟩:=
 gTab (A:={ q:Pp // q.Ok }) X ops.size [] (nrefL [1,2,3,4,5,6]) es [] tX (fun _=>r) (fun a=>ChM c' a.1++extra) (fun a=>ChM c' a.1++extra) ⟨p0,p0_ok⟩ nums hb mixed hdep hXn hnums hall hnd hbase rfl hfi hgd hgb hsX
  (fun rest Q' hQ=>cj (h rest) hc hp (fun p' hp'=>hQ ⟨p',hp'⟩) hm0 hargs hra hr hx) hst (by rw [Nat.ble_eq];exact Nat.le_refl _) (by rw [beq_yes];rfl) (fun _ _=>rfl) (fun a=>hg a.1 a.2)
theorem ta {kl:List (Nat×Nat)} {base pre:List (Nat×PV)} {fs:List (Nat×Nat×PV)} {X S:Nat} {m0 m1 m2:List (List PV)} {p:PV} {ob0:List (Bool×Bool)} (hs:pick fs (dsK kl ops i)++base=pre) (he:entsOf i fs=[(t,p)]) (hX:Nat.beq i X=false) (hS:Nat.beq i S=false)
 (ha:memN i (ancs ops 7 [X])=true) (h0:∀ rest,E.step tab ops.toList K.n i ⟨pre++rest,m0⟩=some (ob0,⟨(t,p) :: (pre++rest),m0⟩)) (hT:tabB K.P tab=true:=by exact tabOk) (ho0:Obl ob0:=by exact Obl.nil):TabOp K ops kl base fs X S m0 m1 m2 i:=
 tA hs he hX hS ha (fun rest _ hg=>toO (gv hT (h0 rest) (ofO hg) ho0))
theorem ta_ {kl:List (Nat×Nat)} {base pre:List (Nat×PV)} {fs:List (Nat×Nat×PV)} {X S:Nat} {m0 m1 m2:List (List PV)} {p:PV} {ob0:List (Bool×Bool)} (hs:pick fs (dsK kl ops i)++base=pre:=by exact rfl) (he:entsOf i fs=[(t,p)]:=by exact rfl) (hX:Nat.beq i X=false:=by rfl) (hS:Nat.beq i S=false:=by rfl) (ha:memN i (ancs ops 7 [X])=true:=by kernel_rfl) (h0:∀ rest,E.step tab ops.toList K.n i ⟨pre++rest,m0⟩=some (ob0,⟨(t,p) :: (pre++rest),m0⟩):=by exact fun _=>rfl) (hT:tabB K.P tab=true:=by exact tabOk) (ho0:Obl ob0:=by exact Obl.nil):TabOp K ops kl base fs X S m0 m1 m2 i:=ta hs he hX hS ha h0 hT ho0
theorem c41 (c:Ch) (m:ByteArray) (hc:c.Few):Mt 41 [.ref 0 0,.d (.str m)] c (.tup []) (nextC c m):=by
 intro p hp
 refine gjB 1 7 Tryd.func41 Tryd.ntmps41 Tryd.results41 (fun S0 O0 w0 m0 hm0=>?_)
 repeat' first | refine s_ ?_ | refine bs (by exact rfl) ?_ | fail
 refine gCell 0 3 rfl rfl ?_ rfl rfl
 refine gApG (pre:=p.u1) (xs:=sD c.una) (post:=p.u2) (ys:=[.str m]) rfl rfl rfl rfl rfl (by rw [hm0];decide) (by exact J1) rfl (by simp) (row_k hp.u1 (sD_k _) hp.u2) (by simp [D.cells]) (by decide) u35 inf9 rfl (by simp [Value.cells,Value.oneCell']) (by rw [sD_len];have:=hc.una;unfold lim;simp;omega) (by rw [sD_len];have:=hc.una;unfold lim;simp;omega) (Nat.le_of_ble_eq_true rfl) (fun a b hab=>?_)
 rw [← List.length_append,sD_snoc]
 repeat' first | refine s_ ?_ | fail
 refine kp [(0,.ref 0 0),(1,.d (.str m))] ⟨rfl,rfl,trivial⟩ ?_
 refine (show GF _ _ _ _ ⟨_,ChM { c with una:=c.una++[m] } { p with u1:=a,u2:=b }++[]⟩ from ?_)
 have hp2:Pp.Ok { p with u1:=a,u2:=b }:={ hp with u1:=fun x hx=>hab x (List.mem_append_left _ (List.mem_append_left _ hx)),u2:=fun x hx=>hab x (List.mem_append_right _ hx) }
 have q58:=c58t { c with una:=c.una++[m] } ⟨1,c.nxt,m⟩
 unfold Pk.d at q58
 refine tabC 9 23 [(0,14,.ref 0 0),(1,15,.ref 0 0),(2,16,.ref 0 8),(3,17,.ref 0 0),(4,18,.ref 0 0),(5,19,.ref 0 2),(6,20,.d (.int .i64 c.nxt)),(7,21,.d (.str m)),(8,22,.d (.agg [.int .i64 1,.int .i64 c.nxt,.str m]))] [0,1,2,3,4,5,6,7,8] (by exact rfl) (by exact rfl) (fun rest=>rfl) q58 hp2 (fun a=>?_) (fun p' hp'=>?_)
 · refine ⟨?_,?_,?_,?_,?_,?_,?_,?_,?_,trivial⟩
   all_goals exact ta_
 · refine s_ ?_
   refine Z33 ?_
   rw [List.append_nil]
   repeat' first | refine s_ ?_ | fail
   exact enj (mem':=ChM (nextC c m) p') (by exact rfl) ⟨rfl,p',hp',rfl⟩ (ChM_sub (nextC c m) p' [])
end
section
variable {K:Ctx} {ops:Array Oper} {kl:List (Nat×Nat)} {base pre:List (Nat×PV)} {fs:List (Nat×Nat×PV)} {X S i t:Nat} {m0 m1 m2:List (List PV)}
theorem tb {p:PV} {ob:List (Bool×Bool)} (hs:pick fs (dsK kl ops i)++base=pre) (he:entsOf i fs=[(t,p)]) (hX:Nat.beq i X=false) (hS:Nat.beq i S=false)
 (ha:memN X (depsOf ops i)=true) (hb:memN i (ancs ops 5 [S])=true) (h0:∀ rest,E.step tab ops.toList K.n i ⟨pre++rest,m1⟩=some (ob,⟨(t,p) :: (pre++rest),m1⟩)) (hT:tabB K.P tab=true:=by exact tabOk) (ho0:Obl ob:=by exact Obl.nil):TabOp K ops kl base fs X S m0 m1 m2 i:=
 tB hs he hX hS ha hb (fun rest _ hg=>toO (gv hT (h0 rest) (ofO hg) ho0))
theorem tq3 {p:PV} {ob:List (Bool×Bool)} (hs:pick fs (dsK kl ops i)++base=pre) (he:entsOf i fs=[(t,p)]) (hX:Nat.beq i X=false) (hS:Nat.beq i S=false)
 (h0:∀ rest mm,E.step tab ops.toList K.n i ⟨pre++rest,mm⟩=some (ob,⟨(t,p) :: (pre++rest),mm⟩)) (hT:tabB K.P tab=true:=by exact tabOk) (ho0:Obl ob:=by exact Obl.nil):TabOp K ops kl base fs X S m0 m1 m2 i:=
 tQ hs he hX hS (fun rest _ hg=>toO (gv hT (h0 rest _) (ofO hg) ho0)) (fun rest _ hg=>toO (gv hT (h0 rest _) (ofO hg) ho0)) (fun rest _ hg=>toO (gv hT (h0 rest _) (ofO hg) ho0))
theorem ts {ob:List (Bool×Bool)} (hs:pick fs (dsK kl ops S)++base=pre) (he:entsOf S fs=[]) (hX:Nat.beq S X=false)
 (ha:memN X (depsOf ops S)=true) (h0:∀ rest,E.step tab ops.toList K.n S ⟨pre++rest,m1⟩=some (ob,⟨pre++rest,m2⟩)) (hT:tabB K.P tab=true:=by exact tabOk) (ho0:Obl ob:=by exact Obl.nil):TabOp K ops kl base fs X S m0 m1 m2 S:=
 tS hs he hX ha (fun rest _ hg=>toO (gv hT (h0 rest) (ofO hg) ho0))
theorem tal {k:Nat} {xs:List D} (hs:pick fs (dsK kl ops i)++base=pre) (he:entsOf i fs=[(t,.osl k xs)]) (hX:Nat.beq i X=false) (hS:Nat.beq i S=false)
 (ha:memN i (ancs ops 7 [X])=true) (h0:∀ rest,bss tab ops.toList K.n i (pre++rest)=some (t,k,xs)) (hT:tabB K.P tab=true:=by exact tabOk) (hk0:0 < k:=by decide) (hk:∀ d ∈ xs,d.cells.length=k:=by simp [D.cells]):TabOp K ops kl base fs X S m0 m1 m2 i:=
 tA hs he hX hS ha (fun rest _ hg=>gB hT (h0 rest) hk0 hk hg)
def Pq (k:Nat) (xs:List D):Type:={ q:List D×List D // ∀ x ∈ q.1++xs++q.2,x.cells.length=k }
def delC (c:Ch) (q:Pk):Ch:={ c with del:=c.del++[q.bo],exp:=IntKind.i64.wrap (c.exp + 1) }
theorem ChM_refs (c:Ch) (p:Pp):(ChM c p).all (PV.refsBs 7)=true:=by
 rw [show (ChM c p).all (PV.refsBs 7)=(PV.refsBs 7 (ChA c p 1 2 3 4 5 6) && (ChR c p).all (PV.refsBs 7)) from rfl,ChR_refs];rfl
theorem c64 (c:Ch) (q:Pk) (hc:c.Few):Mt 64 [.ref 0 0,.d q.d] c (.tup []) (delC c q):=by
 intro p hp
 unfold Pk.d
 refine gjB 1 7 Tryd.func64 Tryd.ntmps64 Tryd.results64 (fun S0 O0 w0 m0 hm0=>?_)
 refine Z17 ?_;refine Z17 ?_;refine Z17 ?_
 refine fz true (by exact rfl) ?_ (by rw [hm0];decide) (ChM_refs c p)
 repeat' first | refine s_ ?_ | fail
 refine kp [(0,.ref 0 0),(3,.d (.ptr (.agg [.int .i64 q.kd,.int .i64 q.nu,.str q.bo])))] ⟨rfl,rfl,trivial⟩ ?_
 refine gTab (A:=Pq 1 (sD (c.del++[q.bo]))) (m1:=fun a=>((ChM c p).set 0 ((ChA c p 1 2 3 4 5 6).set 7 .undef)).set 3 (flat (a.1.1++sD (c.del++[q.bo])++a.1.2))) (m2:=fun a=>ChM { c with del:=c.del++[q.bo] } { p with d1:=a.1.1,d2:=a.1.2 })
  8 11 [(4,8)] (PV.nref 3) [(0,4,.ref 0 0),(1,5,.ref 0 0),(2,6,.ref 0 0),(3,7,.ref 0 7),(4,8,.rsl 3 (rlo 1 p.d1 (sD c.del) p.d2) (sD c.del).length 1),(5,9,.d (.ptr (.str q.bo))),(6,10,.d (.str q.bo)),(7,11,.osl 1 [.str q.bo])]
  [(9,13,.ref 0 0),(10,14,.ref 0 7)] 12 (fun a=>rowV 3 1 a.1.1 (sD (c.del++[q.bo])) a.1.2) ⟨([],[]),row_k (by simp) (sD_k _) (by simp)⟩ [0,1,2,3,4,5,6,7,9,10,11]
  (by exact rfl) mixed (by kernel_rfl) rfl (by kernel_rfl) rfl rfl rfl rfl rfl rfl rfl (by exact rfl) (fun rest Q' hQ=>?_) (fun a=>?_) rfl (by kernel_rfl) (fun a h=>absurd h (by decide)) (fun a=>?_)
 · refine gCell 0 7 rfl rfl ?_ rfl rfl
   exact gApG (pre:=p.d1) (xs:=sD c.del) (post:=p.d2) (ys:=[.str q.bo]) rfl rfl rfl rfl rfl (by rw [hm0];decide) (by exact J1) rfl (by simp) (row_k hp.d1 (sD_k _) hp.d2) (by simp [D.cells]) (by decide) u35 inf9 rfl (by simp [Value.cells,Value.oneCell']) (by rw [sD_len];have:=hc.del;unfold lim;simp;omega) (by rw [sD_len];have:=hc.del;unfold lim;simp;omega) (Nat.le_of_ble_eq_true rfl) (fun a b hab=>by rw [sD_snoc] at hab;rw [← List.length_append,sD_snoc];exact hQ ⟨(a,b),hab⟩)
 · refine ⟨?_,?_,?_,?_,?_,?_,?_,?_,?_,?_,?_,trivial⟩
   · exact tq3 (by exact rfl) (by exact rfl) rfl rfl (by exact fun _ _=>rfl)
   iterate 6 exact ta_
   · exact tal (by exact rfl) (by exact rfl) rfl rfl (by kernel_rfl) (by exact fun _=>rfl)
   iterate 2 exact tb (by exact rfl) (by exact rfl) rfl rfl (by kernel_rfl) (by kernel_rfl) (by exact fun _=>rfl)
   · exact ts (by exact rfl) (by exact rfl) rfl (by kernel_rfl) (by exact fun _=>rfl)
 · refine s_ ?_
   refine Z33 ?_
   repeat' first | refine s_ ?_ | fail
   exact enj (mem':=ChM (delC c q) { p with d1:=a.1.1,d2:=a.1.2 }) (by exact rfl) ⟨rfl,{ p with d1:=a.1.1,d2:=a.1.2 },{ hp with d1:=fun x hx=>a.2 x (List.mem_append_left _ (List.mem_append_left _ hx)),d2:=fun x hx=>a.2 x (List.mem_append_right _ hx) },rfl⟩ (ChM_sub (delC c q) { p with d1:=a.1.1,d2:=a.1.2 } [])
end
section
def rhoD:Shelf.Ren:=⟨fun _=>61,fun t=>if t=24 then 35 else t,fun x=>x⟩
theorem laysD:Lays2.n24 Tryd.prog rhoD where
 mixed:=by kernel_rfl
 f24:=by kernel_rfl
 t0:=by kernel_rfl
 a0:=fun _=>by kernel_rfl
 z0:=fun _=>by kernel_rfl
 v0:=fun _=>by kernel_rfl
 t3:=by kernel_rfl
 a3:=fun _=>by kernel_rfl
 z3:=fun _=>by kernel_rfl
 v3:=fun _=>by kernel_rfl
 t4:=by kernel_rfl
 a4:=fun _=>by kernel_rfl
 z4:=fun _=>by kernel_rfl
 v4:=fun _=>by kernel_rfl
 t9:=by kernel_rfl
 a9:=fun _=>by kernel_rfl
 z9:=fun _=>by kernel_rfl
 v9:=fun _=>by kernel_rfl
 t24:=by kernel_rfl
 a24:=fun _=>by kernel_rfl
 z24:=fun _=>by kernel_rfl
 v24:=fun _=>by kernel_rfl
 i9:=by kernel_rfl
theorem Env.drewN {S0:Reg} {O0:Owns} {w0:World} {S:Reg} {O:Owns} {m:List Nat} {mem:List (List PV)} {w:World} (h:Env S0 O0 w0 S O m mem w):∀ n,Env S0 O0 w0 S O m mem (w.drewN n)
 | 0=>h
 | n + 1=>by
  have h1:=Env.drewN h n
  have h2:Rep ⟨Tryd.prog,0,S0,O0,w0,m,[],[]⟩ S O m ⟨[],mem⟩ { tmps:=#[],defers:=[] } (w.drewN n):=⟨h1,rfl,rfl,List.prefix_refl _,fun i p hp=>by cases hp⟩
  exact h2.drew.env
theorem flat_ap (a b:List D):flat (a++b)=flat a++flat b:=by simp [flat]
theorem flat_sD (l:List ByteArray):flat (sD l)=l.map fun s=>.d (.str s):=by
 induction l with
 | nil=>rfl
 | cons x l ih=>show flat (D.str x :: sD l)=_;rw [flat_cons,ih];rfl
theorem strs_del (xs:List ByteArray) (i:Nat) (hi:i < xs.length) (Sx:Nat→ByteArray) (hS:∀ j (h:j < xs.length),Sx j=xs[j]):((Lib.strsOf Sx xs.length).take i++(Lib.strsOf Sx xs.length).drop (i + 1)++List.replicate (i + 1 - i) []).map encStr=(xs.eraseIdx i++[ByteArray.empty]).map Value.string:=by
 have h1:Lib.strsOf Sx xs.length=xs.map (·.data.toList):=by
  unfold Lib.strsOf
  refine List.ext_getElem (by simp) fun j h1 h2=>?_
  simp only [List.getElem_map,List.getElem_range]
  rw [hS j (by simpa using h1)]
 rw [h1,← List.map_take,← List.map_drop,← List.map_append]
 rw [show i + 1 - i=1 by omega]
 rw [List.map_append,Lib.map_encStr,List.map_append,List.eraseIdx_eq_take_drop_succ,List.map_append,List.map_append]
 rfl
theorem c61 (xs:List ByteArray) (pre post:List D) (i:Nat) (hpre:∀ x ∈ pre,x.cells.length=1) (hpost:∀ x ∈ post,x.cells.length=1) (hi:i < xs.length):
 Gm Tryd.prog 61 [rowV 0 1 pre (sD xs) post,.d (.int .i64 (i:Int)),.d (.int .i64 ((i + 1:Nat):Int))] [flat (pre++sD xs++post)] (rowV 0 1 pre (sD (xs.eraseIdx i)) (.str ByteArray.empty :: post)) [flat (pre++sD (xs.eraseIdx i)++(.str ByteArray.empty :: post))]:=by
 refine ⟨⟨_,Tryd.func61,rfl,rfl⟩,fun w S O m vals henv hvs hargs=>?_⟩
 have hrep:Rep ⟨Tryd.prog,0,S,O,w,m,[],[]⟩ S O m ⟨[],[flat (pre++sD xs++post)]⟩ { tmps:=#[],defers:=[] } w:=⟨henv,rfl,rfl,List.prefix_refl _,fun i p hp=>by cases hp⟩
 obtain ⟨v0,v1,v2,rfl⟩:∃ v0 v1 v2,vals=#[v0,v1,v2]:=by
  match vals,hvs with
  | ⟨[a,b,c]⟩,_=>exact ⟨a,b,c,rfl⟩
 have h0:=hargs 0 _ v0 rfl rfl
 have h1:=hargs 1 _ v1 rfl rfl
 have h2:=hargs 2 _ v2 rfl rfl
 have hv1:v1=.int .i64 (i:Int):=by cases h1 with | d _ _ _ h=>cases h;rfl
 have hv2:v2=.int .i64 ((i + 1:Nat):Int):=by cases h2 with | d _ _ _ h=>cases h;rfl
 subst hv1;subst hv2
 have hkall:=row_k hpre (sD_k xs) hpost
 obtain ⟨ab,cap,hv,hcap,⟨hlim,hcapx⟩,hrow⟩:=row_val h0 rfl rfl
 subst hv
 have hxne:sD xs ≠ []:=by
  intro h
  have h3:(sD xs).length=0:=by rw [h];rfl
  rw [sD_len] at h3;omega
 rcases hrow with ⟨h,_⟩ | ⟨hcz,hne,r,hr,rfl,hroom⟩
 · exact absurd h hxne
 have hmemr:m[0]? = some r:=hr
 rw [Nat.mul_one] at hroom ⊢
 obtain ⟨vs0,el,hheap,hsz⟩:=hroom
 obtain ⟨hown,hsz2,hone,hcells⟩:=row_cells (zs:=pre++sD xs++post) (b:=0) (k:=1) hrep rfl hmemr hkall (by decide) hne hheap
 have hcell:∀ j (h:j < xs.length),w.cell? ⟨r,pre.length + j,none⟩=some (.string xs[j]):=fun j h=>by
  have hx:(sD xs)[j]? = some (.str xs[j]):=by unfold sD;rw [List.getElem?_map,gE h];rfl
  obtain ⟨v,g1,g2⟩:=hcells (pre.length + j) _ 0 (.str xs[j]) (row_at hx) rfl
  rw [Nat.mul_one,Nat.add_zero] at g1
  cases g2
  rw [cell_of_row w r _ vs0 el _ hheap]
  exact g1
 let Sx:Nat→ByteArray:=fun j=>xs.getD j ByteArray.empty
 have hSx:∀ j (h:j < xs.length),Sx j=xs[j]:=fun j h=>by
  show xs.getD j ByteArray.empty=_
  rw [List.getD_eq_getElem?_getD,gE h];rfl
 have hcap':xs.length≤cap:=by rw [← sD_len];exact hcap
 have hvs:=Any.slices_Delete_string_cells laysD r pre.length xs.length cap i (i + 1) Sx w hcap' hcapx (Nat.le_succ i) hi (fun j hj=>by rw [hSx j hj];exact hcell j hj) (fun j _=>by simp [World.frozen?,hheap])
 rw [sD_len]
 refine Calls.mono hvs ?_
 rintro e w' ⟨rfl,q,rfl⟩
 rw [strs_del xs i hi Sx hSx]
 have henv2:=Env.drewN henv q
 have hrep2:Rep ⟨Tryd.prog,0,S,O,w,m,[],[]⟩ S O m ⟨[],[flat (pre++sD xs++post)]⟩ { tmps:=#[],defers:=[] } (w.drewN q):=⟨henv2,rfl,rfl,List.prefix_refl _,fun i p hp=>by cases hp⟩
 have hmem2:(GS.mk [] [flat (pre++sD xs++post)]).mem[0]? = some (flat (pre++sD xs++post)):=rfl
 have hfl:=flat_length _ hkall
 have hlen:(pre++sD xs++post).length=pre.length + xs.length + post.length:=by simp [sD_len];omega
 have hlp:(flat pre).length=pre.length:=by rw [flat_length pre hpre,Nat.mul_one]
 have hpl:plainB (flat (pre++sD xs++post))=true:=flat_plain (by intro hc;have:=congrArg List.length hc;rw [hfl,hlen,Nat.mul_one] at this;simp only [List.length_nil] at this;omega)
 have hdl:(xs.eraseIdx i).length=xs.length - 1:=by rw [List.length_eraseIdx,if_pos hi]
 have hsl:((xs.eraseIdx i++[ByteArray.empty]).map Value.string).length=xs.length:=by rw [List.length_map,List.length_append,hdl];simp;omega
 let ps:List PV:=(xs.eraseIdx i++[ByteArray.empty]).map fun s=>.d (.str s)
 have hpsl:ps.length=xs.length:=by show (List.map _ _).length=_;rw [List.length_map] at hsl ⊢;exact hsl
 obtain ⟨w',hst,hrep3⟩:=hrep2.store (f:=id) hmem2 hpl ps ((xs.eraseIdx i++[ByteArray.empty]).map Value.string) (by rw [hsl,hpsl]) (off:=pre.length) (by rw [hfl,hlen,hpsl,Nat.mul_one];omega) (fun j v hj=>by
  rw [List.getElem?_map] at hj
  cases hx:(xs.eraseIdx i++[ByteArray.empty])[j]? with
  | none=>rw [hx] at hj;cases hj
  | some s=>rw [hx] at hj;injection hj with hj;subst hj;rfl) (fun _=>rfl) (fun _ _ _=>rfl) [] (fun i p hp=>by cases hp) (fun j p v hp hv=>by
  rw [List.getElem?_map] at hp hv
  cases hx:(xs.eraseIdx i++[ByteArray.empty])[j]? with
  | none=>rw [hx] at hv;cases hv
  | some s=>
   rw [hx] at hp hv
   injection hp with hp;injection hv with hv
   subst hp;subst hv
   exact .d _ _ _ (.str s)) r hmemr
 have hheap2:(w.drewN q).heap[r]? = some (.cells vs0 el (0,0)):=hheap
 have hst2:=run_storeCells_cells (P:=Tryd.prog) r pre.length ((xs.eraseIdx i++[ByteArray.empty]).map Value.string) 0 (w.drewN q) (fun j hj=>by
  rw [hsl] at hj
  rw [cell_of_row (w.drewN q) r _ vs0 el _ hheap2,Nat.add_zero]
  have:pre.length + j < vs0.size:=by omega
  rw [Array.getElem?_eq_getElem this];rfl) (fun j _=>by simp [World.frozen?,World.drewN,hheap]) (fun v hv=>by
  obtain ⟨s,_,rfl⟩:=List.mem_map.1 hv;rfl)
 rw [Nat.add_zero] at hst2
 have hww:w'=(w.drewN q).setCells r pre.length ((xs.eraseIdx i++[ByteArray.empty]).map Value.string):=by
  have h5:=hst.symm.trans hst2
  injection h5
 subst hww
 have hmemo:[flat (pre++sD xs++post)].set 0 (splice (flat (pre++sD xs++post)) pre.length ps)=[flat (pre++sD (xs.eraseIdx i)++(.str ByteArray.empty :: post))]:=by
  show [splice (flat (pre++sD xs++post)) pre.length ps]=_
  congr 1
  unfold splice
  rw [flat_ap,flat_ap,flat_ap,flat_ap,flat_cons,hpsl]
  have e1:((flat pre++flat (sD xs))++flat post).take pre.length=flat pre:=by
   rw [List.append_assoc,← hlp,List.take_left]
  have e2:((flat pre++flat (sD xs))++flat post).drop (pre.length + xs.length)=flat post:=by
   have:(flat pre++flat (sD xs)).length=pre.length + xs.length:=by rw [List.length_append,hlp,flat_length _ (sD_k xs),sD_len,Nat.mul_one]
   rw [← this,List.drop_left]
  rw [e1,e2]
  have e3:ps=flat (sD (xs.eraseIdx i))++[.d (.str ByteArray.empty)]:=by
   show List.map _ _=_
   rw [List.map_append,flat_sD];rfl
  rw [e3]
  simp [D.cells]
 have henv3:=hrep3.env
 dsimp only at henv3
 rw [hmemo] at henv3
 refine ⟨_,_,_,S,reo O id,m,rfl,⟨rfl,rfl⟩,?_,List.prefix_refl _,?_⟩
 · exact henv3
 · have hd2:(sD (xs.eraseIdx i)).length=xs.length - (i + 1 - i):=by rw [sD_len,hdl];omega
   have hr2:=row_mk (w:=(w.drewN q).setCells r pre.length ((xs.eraseIdx i++[ByteArray.empty]).map Value.string)) (S:=S) (O:=reo O id) (m:=m) [2] (b:=0) (k:=1) (r:=r) (cap:=cap) (pre:=pre) (xs:=sD (xs.eraseIdx i)) (post:=.str ByteArray.empty :: post) (by rw [sD_len,hdl];omega) (by rw [sD_len,hdl];rw [sD_len] at hlim;omega) hmemr (by simp) ?_ hcapx
   · rw [hd2,Nat.mul_one] at hr2
     unfold rowV
     rw [hd2]
     exact hr2
   · rw [Nat.mul_one,Nat.mul_one]
     have hE:=henv3.ext
     obtain ⟨vs',g1,g2⟩:=hE.shape r vs0 el (0,0) hheap
     exact ⟨vs',el,g1,by rw [g2];omega⟩
end
end Go.Proofs.YtoonleefemkalaaDoor
