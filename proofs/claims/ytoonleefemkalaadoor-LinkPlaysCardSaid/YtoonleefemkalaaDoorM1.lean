import Derived.Calls
import Derived.Laws.World
import Derived.Laws.Sem
import Derived.RowKit
import Derived.Laws.Entries
import Derived.Laws.CopyRow
import Derived.Laws.Rows
import Derived.Laws.Tables
import Derived.Laws.Append
import Derived.Laws.IdiomCopy
import Derived.Laws.Strings
/- Contracts of functions. Conditions: none. -/
set_option linter.unusedSimpArgs false
set_option linter.unusedVariables false
namespace Go.Proofs.YtoonleefemkalaaDoor.E
open Go
section
theorem oR {p:Prop} [Decidable p] (h:decide p=true):p:=of_decide_eq_true h
theorem gE {α:Type _} {l:List α} {i:Nat} (h:i < l.length):l[i]? = some l[i]:=List.getElem?_eq_getElem h
theorem mG {α:Type _} {l:List α} {i:Nat} {a:α} (h:l[i]? = some a):a ∈ l:=List.mem_of_getElem? h
theorem lG {α:Type _} {l:List α} {i:Nat} {a:α} (h:l[i]? = some a):i < l.length:=(List.getElem?_eq_some_iff.1 h).1
inductive D where
 | int (k:IntKind) (n:Int)
 | bool (b:Bool)
 | str (s:ByteArray)
 | nil
 | ptr (d:D)
 | sl (xs:List D)
 | agg (cs:List D)
 | nilI
 | iface (t:TypeId) (d:D)
 | nilF
 | fn (f:Fn) (first caps:List D)
 | map (kvs:List (D×D))
 | nilM
 | nilS
 deriving Inhabited
def D.cells:D→List D
 | .agg cs=>cs
 | d=>[d]
def D.lit:D→Option Value
 | .int k n=>some (.int k n)
 | .str s=>some (.string s)
 | .bool b=>some (.bool b)
 | _=>none
def D.lits:List D→Option (List Value)
 | []=>some []
 | d :: ds=>match d.lit,D.lits ds with
  | some v,some vs=>some (v :: vs)
  | _,_=>none
def D.keyV:D→Option Value
 | .agg cs=>(D.lits cs).map fun l=>.agg l.toArray
 | d=>d.lit
abbrev Reg:=Nat→Nat→Prop
abbrev Owns:=Nat→Option (List Nat×Nat)
def lim:Nat:=140737488355328
inductive Rd (w:World) (S:Reg):D→Value→Prop
 | int (k:IntKind) (n:Int):Rd w S (.int k n) (.int k n)
 | bool (b:Bool):Rd w S (.bool b) (.bool b)
 | str (s:ByteArray):Rd w S (.str s) (.string s)
 | nil:Rd w S .nil (.pointer none)
 | nilI:Rd w S .nilI .nilIface
 | nilF:Rd w S .nilF .nilFunc
 | nilM:Rd w S .nilM (.map none)
 | nilS:Rd w S .nilS (.slice none 0 0)
 | iface (t:TypeId) (d:D) (v:Value):Rd w S d v→Rd w S (.iface t d) (.iface t v)
 | fn (f:Fn) (first caps:List D) (vf vc:Array Value) (h1:vf.size=first.length) (h2:vc.size=caps.length)
  (g1:∀ (i:Nat) d v,first[i]? = some d→vf[i]? = some v→Rd w S d v) (g2:∀ (i:Nat) d v,caps[i]? = some d→vc[i]? = some v→Rd w S d v):
  Rd w S (.fn f first caps) (.func f vf vc)
 | agg (cs:List D) (vs:Array Value) (hl:vs.size=cs.length) (ho:∀ (i:Nat) v,vs[i]? = some v→v.oneCell'=true)
  (h:∀ (i:Nat) d v,cs[i]? = some d→vs[i]? = some v→Rd w S d v):Rd w S (.agg cs) (.agg vs)
 | map (kvs:List (D×D)) (r:Nat) (es:Array MapEntry) (c:Nat) (hS:S r 0) (hh:w.heap[r]? = some (.map es c))
  (h1:∀ (i:Nat) e,es[i]? = some e→∃ x ∈ kvs,x.1.keyV=some e.key) (h2:∀ x ∈ kvs,∃ (i:Nat) (e:MapEntry),es[i]? = some e∧x.1.keyV=some e.key)
  (hv:∀ (i:Nat) e x,es[i]? = some e→x ∈ kvs→x.1.keyV=some e.key→Rd w S x.2 e.val):Rd w S (.map kvs) (.map (some r))
 | ptr (d:D) (a:Addr) (hs:a.spot=none)
  (hc:∀ (j:Nat) x,d.cells[j]? = some x→S a.block (a.off + j)∧∃ v,w.cell? ⟨a.block,a.off + j,none⟩=some v∧v.oneCell'=true)
  (h:∀ (j:Nat) x v,d.cells[j]? = some x→w.cell? ⟨a.block,a.off + j,none⟩=some v→Rd w S x v):Rd w S (.ptr d) (.pointer (some a))
 | sl (xs:List D) (a:Option Addr) (cap k:Nat) (hcap:xs.length≤cap) (hlim:xs.length≤lim) (hk:∀ x ∈ xs,x.cells.length=k) (hn:a=none→xs=[])
  (hc:∀ ad,a=some ad→∀ (i:Nat) x (j:Nat) y,xs[i]? = some x→x.cells[j]? = some y→ad.spot=none∧
   S ad.block (ad.off + (i * k + j))∧∃ v,w.cell? ⟨ad.block,ad.off + (i * k + j),none⟩=some v∧v.oneCell'=true)
  (h:∀ ad (i:Nat) x (j:Nat) y v,a=some ad→xs[i]? = some x→x.cells[j]? = some y→w.cell? ⟨ad.block,ad.off + (i * k + j),none⟩=some v→Rd w S y v):
  Rd w S (.sl xs) (.slice a xs.length cap)
structure Ext (S:Reg) (w w':World):Prop where
 size:w.heap.size≤w'.heap.size
 shape:∀ (b:Nat) vs el fz,w.heap[b]? = some (.cells vs el fz)→∃ vs',w'.heap[b]? = some (.cells vs' el fz)∧vs'.size=vs.size
 cell:∀ b o,S b o→w'.cell? ⟨b,o,none⟩=w.cell? ⟨b,o,none⟩
 maps:∀ (b:Nat) es c,S b 0→w.heap[b]? = some (.map es c)→w'.heap[b]? = some (.map es c)
 os:w'.os=w.os:=by rfl
 tape:w'.tape=w.tape:=by rfl
 output:w'.output=w.output:=by rfl
theorem Ext.refl (S:Reg) (w:World):Ext S w w:=⟨Nat.le_refl _,fun _ vs _ _ h=>⟨vs,h,rfl⟩,fun _ _ _=>rfl,fun _ _ _ _ h=>h,rfl,rfl,rfl⟩
variable {S S':Reg} {w:World}
theorem Ext.trans {w1 w2:World} (h:Ext S w w1) (h':Ext S' w1 w2) (hs:∀ b o,S b o→S' b o):Ext S w w2 where
 size:=Nat.le_trans h.size h'.size
 shape:=fun b vs el fz hb=>by
  obtain ⟨v1,h1,e1⟩:=h.shape b vs el fz hb
  obtain ⟨v2,h2,e2⟩:=h'.shape b v1 el fz h1
  exact ⟨v2,h2,e2.trans e1⟩
 cell:=fun b o hb=>(h'.cell b o (hs b o hb)).trans (h.cell b o hb)
 maps:=fun b es c hb hh=>h'.maps b es c (hs b 0 hb) (h.maps b es c hb hh)
 os:=h'.os.trans h.os
 tape:=h'.tape.trans h.tape
 output:=h'.output.trans h.output
variable {w':World} {v:Value}
theorem Rd.frame {d:D} (h:Rd w S d v)
 (hc:∀ b o,S b o→w'.cell? ⟨b,o,none⟩=w.cell? ⟨b,o,none⟩) (hm:∀ (b:Nat) es c,S b 0→w.heap[b]? = some (.map es c)→w'.heap[b]? = some (.map es c)) (hs:∀ b o,S b o→S' b o):Rd w' S' d v:=by
 induction h with
 | int=>exact .int ..
 | bool=>exact .bool ..
 | str=>exact .str ..
 | nil=>exact .nil
 | nilI=>exact .nilI
 | nilF=>exact .nilF
 | nilM=>exact .nilM
 | nilS=>exact .nilS
 | map kvs r es c hS hh h1 h2 _ ih=>exact .map kvs r es c (hs _ _ hS) (hm _ _ _ hS hh) h1 h2 (fun i e x hi hx hk=>ih i e x hi hx hk)
 | iface t d v _ ih=>exact .iface t d v ih
 | fn f first caps vf vc h1 h2 _ _ g1 g2=>exact .fn f first caps vf vc h1 h2 g1 g2
 | agg cs vs hl ho _ ih=>exact .agg cs vs hl ho ih
 | ptr d a hsp hcell _ ih=>
  refine .ptr d a hsp (fun j x hj=>?_) (fun j x v hj hv=>?_)
  · obtain ⟨h1,v,h2,h3⟩:=hcell j x hj
    exact ⟨hs _ _ h1,v,(hc _ _ h1).trans h2,h3⟩
  · exact ih j x v hj ((hc _ _ (hcell j x hj).1).symm.trans hv)
 | sl xs a cap k h1 h2 h3 h4 hcell _ ih=>
  refine .sl xs a cap k h1 h2 h3 h4 (fun ad ha i x j y hi hj=>?_) (fun ad i x j y v ha hi hj hv=>?_)
  · obtain ⟨g0,g1,v,g2,g3⟩:=hcell ad ha i x j y hi hj
    exact ⟨g0,hs _ _ g1,v,(hc _ _ g1).trans g2,g3⟩
  · exact ih ad i x j y v ha hi hj ((hc _ _ (hcell ad ha i x j y hi hj).2.1).symm.trans hv)
theorem Rd.ext {d:D} (h:Rd w S d v) (e:Ext S w w') (hs:∀ b o,S b o→S' b o):Rd w' S' d v:=
 h.frame e.cell e.maps hs
inductive PV where
 | d (x:D)
 | nils
 | osl (k:Nat) (xs:List D)
 | ref (b off:Nat)
 | rsl (b off n k:Nat)
 | mref (b:Nat)
 | ifr (t:TypeId) (b off:Nat)
 | mapc (kvs:List (D×D))
 | fn (f:Fn) (first caps:List PV)
 | agg (cs:List PV)
 | tup (vs:List PV)
 | when (b:Bool) (p:PV)
 | undef
 deriving Inhabited
def Room (w:World) (r c:Nat):Prop:=∃ vs el,w.heap[r]? = some (.cells vs el (0,0))∧c≤vs.size
variable {r:Nat}
theorem Room.ext {c:Nat} (h:Room w r c) (e:Ext S w w'):Room w' r c:=by
 obtain ⟨vs,el,h1,h2⟩:=h
 obtain ⟨vs',h3,h4⟩:=e.shape _ _ _ _ h1
 exact ⟨vs',el,h3,by omega⟩
def rofs (n off:Nat):Nat:=if n=0 then off - 1 else off
theorem rofs_zero (n:Nat):rofs n 0=0:=by unfold rofs;split<;>rfl
theorem rofs_pos {n off:Nat} (h:n ≠ 0):rofs n off=off:=if_neg h
inductive RP (w:World) (S:Reg) (O:Owns) (m:List Nat):List Nat→PV→Value→Prop
 | d (l:List Nat) (x:D) (v:Value):Rd w S x v→RP w S O m l (.d x) v
 | nils (l:List Nat):RP w S O m l .nils (.slice none 0 0)
 | osl (l:List Nat) (k:Nat) (xs:List D) (a:Option Addr) (cap:Nat) (hr:Rd w S (.sl xs) (.slice a xs.length cap)) (hk:∀ x ∈ xs,x.cells.length=k)
  (hn:a=none→cap=0)
  (ht:∀ ad,a=some ad→ad.spot=none∧O ad.block=some (l,ad.off + xs.length * k)∧∃ vs el,w.heap[ad.block]? = some (.cells vs el (0,0))∧ad.off + cap * k≤vs.size):
  RP w S O m l (.osl k xs) (.slice a xs.length cap)
 | ref (l:List Nat) (b off r:Nat):m[b]? = some r→RP w S O m l (.ref b off) (.pointer (some ⟨r,off,none⟩))
 | rsl (l:List Nat) (b off n k:Nat) (a:Option Addr) (cap:Nat) (hc:n≤cap) (hl:n≤lim) (h0:n=0→off=0→cap=0) (h:cap ≠ 0→∃ r,m[b]? = some r∧a=some ⟨r,rofs n off,none⟩∧Room w r (rofs n off + cap * k)) (hmx:cap≤9223372036854775807:=by first | assumption | omega | (have:lim=140737488355328:=rfl;omega)):
  RP w S O m l (.rsl b off n k) (.slice a n cap)
 | mref (l:List Nat) (b r:Nat):m[b]? = some r→RP w S O m l (.mref b) (.map (some r))
 | ifr (l:List Nat) (t:TypeId) (b off r:Nat):m[b]? = some r→RP w S O m l (.ifr t b off) (.iface t (.pointer (some ⟨r,off,none⟩)))
 | fn (l:List Nat) (f:Fn) (first caps:List PV) (vf vc:Array Value) (h1:vf.size=first.length) (h2:vc.size=caps.length)
  (g1:∀ (i:Nat) p v,first[i]? = some p→vf[i]? = some v→RP w S O m (i :: 0 :: l) p v) (g2:∀ (i:Nat) p v,caps[i]? = some p→vc[i]? = some v→RP w S O m (i :: 1 :: l) p v):
  RP w S O m l (.fn f first caps) (.func f vf vc)
 | agg (l:List Nat) (cs:List PV) (vs:Array Value) (hl:vs.size=cs.length) (ho:∀ (i:Nat) v,vs[i]? = some v→v.oneCell'=true)
  (h:∀ (i:Nat) p v,cs[i]? = some p→vs[i]? = some v→RP w S O m (i :: l) p v):RP w S O m l (.agg cs) (.agg vs)
 | tup (l:List Nat) (cs:List PV) (vs:Array Value) (hl:vs.size=cs.length)
  (h:∀ (i:Nat) p v,cs[i]? = some p→vs[i]? = some v→RP w S O m (i :: l) p v):RP w S O m l (.tup cs) (.tuple vs)
 | whenT (l:List Nat) (b:Bool) (p:PV) (v:Value) (hb:b=true):RP w S O m l p v→RP w S O m l (.when b p) v
 | whenF (l:List Nat) (b:Bool) (p:PV) (hb:b=false):RP w S O m l (.when b p) Go.undef
 | undef (l:List Nat) (v:Value):RP w S O m l .undef v
variable {O O':Owns} {m m' l:List Nat} {p:PV}
theorem RP.frame (h:RP w S O m l p v):
 ∀ (l':List Nat),Ext S w w'→(∀ b o,S b o→S' b o)→(∀ b t q,O b=some (q++l,t)→O' b=some (q++l',t))→(∀ (b r:Nat),m[b]? = some r→m'[b]? = some r)→
 RP w' S' O' m' l' p v:=by
 induction h with
 | d l x v h=>exact fun l' e hs _ _=>.d l' x v (h.ext e hs)
 | nils l=>exact fun l' _ _ _ _=>.nils l'
 | osl l k xs a cap hr hk hn ht=>
  intro l' e hs hO _
  refine .osl l' k xs a cap (hr.ext e hs) hk hn (fun ad ha=>?_)
  obtain ⟨h1,h2,vs,el,h3,h4⟩:=ht ad ha
  obtain ⟨vs',h5,h6⟩:=e.shape _ _ _ _ h3
  exact ⟨h1,hO _ _ [] h2,vs',el,h5,by omega⟩
 | ref l b off r h=>exact fun l' _ _ _ hm=>.ref l' b off r (hm b r h)
 | rsl l b off n k a cap hc hl h0 h=>exact fun l' e _ _ hm=>.rsl l' b off n k a cap hc hl h0 (fun hn=>by obtain ⟨r,h1,h2,h3⟩:=h hn;exact ⟨r,hm b r h1,h2,h3.ext e⟩)
 | mref l b r h=>exact fun l' _ _ _ hm=>.mref l' b r (hm b r h)
 | ifr l t b off r h=>exact fun l' _ _ _ hm=>.ifr l' t b off r (hm b r h)
 | fn l f first caps vf vc h1 h2 _ _ g1 g2=>
  intro l' e hs hO hm
  refine .fn l' f first caps vf vc h1 h2 (fun i p v hi hv=>g1 i p v hi hv _ e hs (fun b t q hb=>?_) hm) (fun i p v hi hv=>g2 i p v hi hv _ e hs (fun b t q hb=>?_) hm)
  · have:=hO b t (q++[i,0]) (by simpa using hb);simpa using this
  · have:=hO b t (q++[i,1]) (by simpa using hb);simpa using this
 | agg l cs vs hl ho _ ih=>
  intro l' e hs hO hm
  refine .agg l' cs vs hl ho (fun i p v hi hv=>ih i p v hi hv _ e hs (fun b t q hb=>?_) hm)
  have:=hO b t (q++[i]) (by simpa using hb);simpa using this
 | tup l cs vs hl _ ih=>
  intro l' e hs hO hm
  refine .tup l' cs vs hl (fun i p v hi hv=>ih i p v hi hv _ e hs (fun b t q hb=>?_) hm)
  have:=hO b t (q++[i]) (by simpa using hb);simpa using this
 | whenT l b p v hb _ ih=>exact fun l' e hs hO hm=>.whenT l' b p v hb (ih l' e hs hO hm)
 | whenF l b p hb=>exact fun l' _ _ _ _=>.whenF l' b p hb
 | undef l v=>exact fun l' _ _ _ _=>.undef l' v
theorem RP.ext (h:RP w S O m l p v)
 (e:Ext S w w') (hs:∀ b o,S b o→S' b o) (hO:∀ b t q,O b=some (q++l,t)→O' b=some (q++l,t)) (hm:∀ (b r:Nat),m[b]? = some r→m'[b]? = some r):
 RP w' S' O' m' l p v:=h.frame l e hs hO hm
mutual
def PV.copy:PV→PV
 | .d x=>.d x
 | .nils=>.nils
 | .osl _ xs=>.d (.sl xs)
 | .ref b o=>.ref b o
 | .rsl b o n k=>.rsl b o n k
 | .mref b=>.mref b
 | .ifr t b o=>.ifr t b o
 | .mapc kvs=>.mapc kvs
 | .fn f a c=>.fn f (PV.copies a) (PV.copies c)
 | .agg cs=>.agg (PV.copies cs)
 | .tup cs=>.tup (PV.copies cs)
 | .when b p=>.when b p.copy
 | .undef=>.undef
def PV.copies:List PV→List PV
 | []=>[]
 | p :: ps=>p.copy :: PV.copies ps
end
theorem PV.copies_map (ps:List PV):PV.copies ps=ps.map PV.copy:=by
 induction ps with
 | nil=>simp [PV.copies]
 | cons p ps ih=>simp [PV.copies,ih]
theorem PV.copies_getElem? (ps:List PV) (i:Nat) (q:PV) (h:(PV.copies ps)[i]? = some q):∃ p,ps[i]? = some p∧q=p.copy:=by
 rw [PV.copies_map,List.getElem?_map] at h
 cases hp:ps[i]? with
 | none=>simp [hp] at h
 | some p=>exact ⟨p,rfl,by simpa [hp] using h.symm⟩
theorem RP.copy (h:RP w S O m l p v):
 ∀ (O':Owns) (l':List Nat),RP w S O' m l' p.copy v:=by
 induction h with
 | d l x v h=>exact fun _ l'=>by simp only [PV.copy];exact .d l' x v h
 | nils l=>exact fun _ l'=>by simp only [PV.copy];exact .nils l'
 | osl l k xs a cap hr hk hn ht=>exact fun _ l'=>by simp only [PV.copy];exact .d l' _ _ hr
 | ref l b off r h=>exact fun _ l'=>by simp only [PV.copy];exact .ref l' b off r h
 | rsl l b off n k a cap hc hl h0 h=>exact fun _ l'=>by simp only [PV.copy];exact .rsl l' b off n k a cap hc hl h0 h
 | mref l b r h=>exact fun _ l'=>by simp only [PV.copy];exact .mref l' b r h
 | ifr l t b off r h=>exact fun _ l'=>by simp only [PV.copy];exact .ifr l' t b off r h
 | fn l f first caps vf vc h1 h2 _ _ g1 g2=>
  intro O' l'
  simp only [PV.copy]
  refine .fn l' f _ _ vf vc (by simp [PV.copies_map,h1]) (by simp [PV.copies_map,h2]) (fun i p v hi hv=>?_) (fun i p v hi hv=>?_)
  · obtain ⟨p,hp,rfl⟩:=PV.copies_getElem? _ _ _ hi;exact g1 i p v hp hv _ _
  · obtain ⟨p,hp,rfl⟩:=PV.copies_getElem? _ _ _ hi;exact g2 i p v hp hv _ _
 | agg l cs vs hl ho _ ih=>
  intro O' l'
  simp only [PV.copy]
  refine .agg l' _ vs (by simp [PV.copies_map,hl]) ho (fun i p v hi hv=>?_)
  obtain ⟨p,hp,rfl⟩:=PV.copies_getElem? _ _ _ hi;exact ih i p v hp hv _ _
 | tup l cs vs hl _ ih=>
  intro O' l'
  simp only [PV.copy]
  refine .tup l' _ vs (by simp [PV.copies_map,hl]) (fun i p v hi hv=>?_)
  obtain ⟨p,hp,rfl⟩:=PV.copies_getElem? _ _ _ hi;exact ih i p v hp hv _ _
 | whenT l b p v hb _ ih=>exact fun O' l'=>by simp only [PV.copy];exact .whenT l' b _ v hb (ih O' l')
 | whenF l b p hb=>exact fun _ l'=>by simp only [PV.copy];exact .whenF l' b _ hb
 | undef l v=>exact fun _ l'=>by simp only [PV.copy];exact .undef l' v
structure GS where
 slots:List (Nat×PV)
 mem:List (List PV)
def GS.get (s:GS) (i:Nat):Option PV:=s.slots.lookup i
def GS.set (s:GS) (i:Nat) (p:PV):GS:={ s with slots:=(i,p) :: s.slots }
def MapRel (w:World) (S:Reg) (kvs:List (D×D)) (es:Array MapEntry):Prop:=
 (∀ (i:Nat) e,es[i]? = some e→∃ x ∈ kvs,x.1.keyV=some e.key)∧(∀ x ∈ kvs,∃ (i:Nat) (e:MapEntry),es[i]? = some e∧x.1.keyV=some e.key)∧
 ∀ (i:Nat) e x,es[i]? = some e→x ∈ kvs→x.1.keyV=some e.key→Rd w S x.2 e.val
def iterK (b:ByteArray) (pos:Nat):List (D×D):=[(.nilF,.str b),(.nilF,.int .i64 pos)]
def PV.spec:PV→Bool
 | .mapc _=>true
 | .undef=>true
 | _=>false
def Blk (w:World) (S:Reg) (O:Owns) (m:List Nat) (i:Nat) (cs:List PV) (r:Nat):Prop:=
 (∃ vs el,w.heap[r]? = some (.cells vs el (0,0))∧cs.length≤vs.size∧(∀ (j:Nat) v,vs[j]? = some v→v.oneCell'=true)∧∀ (j:Nat) p v,cs[j]? = some p→vs[j]? = some v→RP w S O m [j,i,1] p v)∨
 (∃ kvs es c,cs=[.mapc kvs]∧w.heap[r]? = some (.map es c)∧MapRel w S kvs es)∨(∃ vs,cs=.undef :: vs)∨(∃ b pos,cs=[.mapc (iterK b pos)]∧w.heap[r]? = some (.stringIter b pos))∨
 ∃ kvs p vs es c,cs=.mapc kvs :: p :: vs∧w.heap[r]? = some (.map es c)∧(∀ (k:Nat) e,es[k]? = some e→∃ (j:Nat) (x:D×D),kvs[j]? = some x∧x.1.keyV=some e.key)∧(∀ (j:Nat) (x:D×D),kvs[j]? = some x→∃ (k:Nat) (e:MapEntry),es[k]? = some e∧x.1.keyV=some e.key)∧
  (∀ (k k':Nat) e e',es[k]? = some e→es[k']? = some e'→e.key=e'.key→k=k')∧∀ (k:Nat) e (j:Nat) (x:D×D) q,es[k]? = some e→kvs[j]? = some x→x.1.keyV=some e.key→(p :: vs)[j]? = some q→RP w S O m [j + 1,i,1] q e.val
theorem Blk.frame {i i':Nat} {cs:List PV} (h:Blk w S O m i cs r) (hh:w'.heap[r]? = w.heap[r]?) (hE:Ext S w w') (hs:∀ b o,S b o→S' b o)
 (hO:∀ j b t q,O b=some (q++[j,i,1],t)→O' b=some (q++[j,i',1],t)) (hm:∀ (b r:Nat),m[b]? = some r→m'[b]? = some r):Blk w' S' O' m' i' cs r:=by
 rcases h with ⟨vs,el,h1,h2,h3,h4⟩ | ⟨kvs,es,c,rfl,h1,h2,h3,h4⟩ | ⟨vs,rfl⟩ | ⟨b,pos,rfl,h1⟩ | ⟨kvs,p,vs,es,c,rfl,h1,h2,h3,h5,h4⟩
 · exact .inl ⟨vs,el,hh.trans h1,h2,h3,fun j p v hp hv=>(h4 j p v hp hv).frame _ hE hs (fun b t q=>hO j b t q) hm⟩
 · exact .inr (.inl ⟨kvs,es,c,rfl,hh.trans h1,h2,h3,fun i e x hi hx hk=>(h4 i e x hi hx hk).ext hE hs⟩)
 · exact .inr (.inr (.inl ⟨vs,rfl⟩))
 · exact .inr (.inr (.inr (.inl ⟨b,pos,rfl,hh.trans h1⟩)))
 · exact .inr (.inr (.inr (.inr ⟨kvs,p,vs,es,c,rfl,hh.trans h1,h2,h3,h5,fun k e j x q hk hj hx hq=>(h4 k e j x q hk hj hx hq).frame _ hE hs (fun b t q=>hO (j + 1) b t q) hm⟩)))
theorem Blk.to {i i':Nat} {cs cs':List PV} (h:Blk w S O m i cs r) (hh:w'.heap[r]? = w.heap[r]?) (hE:Ext S w w') (hs:∀ b o,S b o→S' b o)
 (hl:cs'.length=cs.length) (hp:∀ (j:Nat) p',cs'[j]? = some p'→∃ p,cs[j]? = some p∧∀ v,RP w S O m [j,i,1] p v→RP w' S' O' m' [j,i',1] p' v)
 (hsp:∀ p p',cs[0]? = some p→cs'[0]? = some p'→p.spec=true→p'=p∨p'=.undef):Blk w' S' O' m' i' cs' r:=by
 have one:∀ q,cs=[q]→q.spec=true→cs'=[q]∨cs'=[.undef]:=by
  intro q hq hsq
  subst hq
  match cs',hl with
  | [p'],_=>rcases hsp q p' rfl rfl hsq with rfl | rfl
            · exact .inl rfl
            · exact .inr rfl
 rcases h with ⟨vs,el,h1,h2,h3,h4⟩ | ⟨kvs,es,c,hc,h1,h2,h3,h4⟩ | ⟨vs,hc⟩ | ⟨b,pos,hc,h1⟩ | ⟨kvs,p,vs,es,c,hc,h1,h2,h3,h5,h4⟩
 · exact .inl ⟨vs,el,hh.trans h1,by omega,h3,fun j p' v hp' hv=>by obtain ⟨p,hpp,hr⟩:=hp j p' hp';exact hr v (h4 j p v hpp hv)⟩
 · rcases one _ hc rfl with hc' | hc'
   · exact .inr (.inl ⟨kvs,es,c,hc',hh.trans h1,h2,h3,fun i e x hi hx hk=>(h4 i e x hi hx hk).ext hE hs⟩)
   · exact .inr (.inr (.inl ⟨[],hc'⟩))
 · subst hc
   match cs',hl with
   | p' :: vs',_=>rcases hsp .undef p' rfl rfl rfl with rfl | rfl<;>exact .inr (.inr (.inl ⟨vs',rfl⟩))
 · rcases one _ hc rfl with hc' | hc'
   · exact .inr (.inr (.inr (.inl ⟨b,pos,hc',hh.trans h1⟩)))
   · exact .inr (.inr (.inl ⟨[],hc'⟩))
 · subst hc
   match cs',hl with
   | p0 :: p' :: vs',_=>
    rcases hsp _ p0 rfl rfl rfl with rfl | rfl
    · refine .inr (.inr (.inr (.inr ⟨kvs,p',vs',es,c,rfl,hh.trans h1,h2,h3,h5,fun k e j x q hk hj hx hq=>?_⟩)))
      obtain ⟨q0,hq0,hr⟩:=hp (j + 1) q (by simpa using hq)
      exact hr _ (h4 k e j x q0 hk hj hx (by simpa using hq0))
    · exact .inr (.inr (.inl ⟨_,rfl⟩))
structure Env (S0:Reg) (O0:Owns) (w0:World) (S:Reg) (O:Owns) (m:List Nat) (mem:List (List PV)) (w:World):Prop where
 ext:Ext S0 w0 w
 old:∀ b:Nat,b < w0.heap.size→O0 b=none→w.heap[b]? = w0.heap[b]?
 part:∀ (b:Nat) l t o,b < w0.heap.size→O0 b=some (l,t)→o < t→w.cell? ⟨b,o,none⟩=w0.cell? ⟨b,o,none⟩
 s0:∀ b o,S0 b o→S b o
 snew:∀ b o,S b o→S0 b o∨w0.heap.size≤b∨∃ l t,O0 b=some (l,t)∧t≤o
 sown:∀ b o l t,S b o→O b=some (l,t)→o < t
 slt:∀ b o,S b o→b < w.heap.size
 olt:∀ b l t,O b=some (l,t)→b < w.heap.size
 onew:∀ b l t,O b=some (l,t)→w0.heap.size≤b∨∃ l0 t0,O0 b=some (l0,t0)∧t0≤t
 mlen:m.length=mem.length
 mem:∀ (i:Nat) cs r,mem[i]? = some cs→m[i]? = some r→cs ≠ []→O r=some ([i,1],0)∧Blk w S O m i cs r
structure Ctx where
 P:Program
 n:Nat
 S0:Reg
 O0:Owns
 w0:World
 m0:List Nat
 Bs:List Nat:=[]
 ds:List Deferred:=[]
structure Rep (K:Ctx) (S:Reg) (O:Owns) (m:List Nat) (s:GS) (a:Act) (w:World):Prop where
 env:Env K.S0 K.O0 K.w0 S O m s.mem w
 defers:a.defers=K.ds
 size:a.tmps.size=K.n
 pre:K.m0 <+: m
 slots:∀ i p,s.get i=some p→RP w S O m [i,0] p (a.tmps.getD i undef)
def At (K:Ctx) (s:GS) (a:Act) (w:World):Prop:=∃ S O m,Rep K S O m s a w
def G (K:Ctx) (c:Code) (Q:Exit→GS→Prop) (s:GS):Prop:=
 ∀ a w,At K s a w→c.wp K.P (fun e a' w'=>∃ s',Q e s'∧At K s' a' w') a w
variable {K:Ctx} {c:Code} {Q:Exit→GS→Prop} {s:GS}
theorem G.mono {Q':Exit→GS→Prop} (h:G K c Q s) (hq:∀ e s,Q e s→Q' e s):G K c Q' s:=
 fun a w ha=>wp_mono (h a w ha) fun _ _ _ ⟨s',q,r⟩=>⟨s',hq _ _ q,r⟩
theorem gK (h:Q .normal s):G K .skip Q s:=fun _ _ ha=>wp_skip ⟨s,h,ha⟩
theorem G_exit {id:Nat} (h:Q (.exit id) s):G K (.exit id) Q s:=fun _ _ ha=>wp_exit ⟨s,h,ha⟩
theorem gT (h:Q .ret s):G K .ret Q s:=fun _ _ ha=>wp_ret ⟨s,h,ha⟩
def thn (K:Ctx) (y:Code) (Q:Exit→GS→Prop):Exit→GS→Prop
 | .normal,s=>G K y Q s
 | e,s=>Q e s
theorem zgS {x y:Code} (h:G K x (thn K y Q) s):G K (.seq x y) Q s:=by
 intro a w ha
 refine wp_seq (wp_mono (h a w ha) ?_)
 rintro e a' w' ⟨s',q,r⟩
 cases e with
 | normal=>exact q a' w' r
 | exit id=>exact ⟨s',q,r⟩
 | goto l=>exact ⟨s',q,r⟩
 | ret=>exact ⟨s',q,r⟩
 | panic ch=>exact ⟨s',q,r⟩
 | outgrown=>exact ⟨s',q,r⟩
def inBlk (id:Nat) (Q:Exit→GS→Prop):Exit→GS→Prop
 | .exit id',s=>if id'=id then Q .normal s else Q (.exit id') s
 | e,s=>Q e s
theorem G_block {id:Nat} (h:G K c (inBlk id Q) s):G K (.block id c) Q s:=by
 intro a w ha
 refine wp_block (wp_mono (h a w ha) ?_)
 rintro e a' w' ⟨s',q,r⟩
 cases e with
 | normal=>exact ⟨s',q,r⟩
 | exit id'=>
  simp only [inBlk] at q
  simp only [Exit.inBlock]
  split
  · rename_i hid;rw [if_pos hid] at q;exact ⟨s',q,r⟩
  · rename_i hid;rw [if_neg hid] at q;exact ⟨s',q,r⟩
 | goto l=>exact ⟨s',q,r⟩
 | ret=>exact ⟨s',q,r⟩
 | panic ch=>exact ⟨s',q,r⟩
 | outgrown=>exact ⟨s',q,r⟩
theorem G_loop {α:Type} (St:α→GS) (mu:α→Nat) (I:α→Prop) (x0:α) (h0:I x0)
 (hs:∀ a w,At K s a w→At K (St x0) a w)
 (hr:∀ x,I x→G K c (fun e s'=>match e with
  | .normal=>∃ x',I x'∧mu x' < mu x∧∀ a w,At K s' a w→At K (St x') a w
  | e=>Q e s') (St x)):G K (.loop c) Q s:=by
 intro a w ha b k cs
 have key:∀ n,∀ x a w,mu x=n→I x→At K (St x) a w→
  ∃ e a' w',(∃ s',Q e s'∧At K s' a' w')∧Arrives K.P (lone (b.at a (.code c :: .inLoop c :: k)) cs w) b k cs e a' w':=by
  intro n
  induction n using Nat.strongRecOn with
  | _ n ih=>
   intro x a w hn hI hat
   obtain ⟨e,a₁,w₁,⟨s',hq,hat'⟩,harr⟩:=hr x hI a w hat b (.inLoop c :: k) cs
   cases e with
   | normal=>
    obtain ⟨x',hI',hlt,hle⟩:=hq
    obtain ⟨e₂,a₂,w₂,hq₂,harr₂⟩:=ih (mu x') (hn▸hlt) x' a₁ w₁ rfl hI' (hle _ _ hat')
    exact ⟨e₂,a₂,w₂,hq₂,.of_steps (Steps.trans harr (.one step_inLoop)) harr₂⟩
   | exit id=>exact ⟨_,a₁,w₁,⟨s',hq,hat'⟩,.pass (x:=.inLoop c) rfl (fun _ _=>.inl (by simp)) harr⟩
   | goto l=>exact ⟨_,a₁,w₁,⟨s',hq,hat'⟩,.pass (x:=.inLoop c) rfl (fun _ _=>.inl (by simp)) harr⟩
   | ret=>exact ⟨_,a₁,w₁,⟨s',hq,hat'⟩,.pass (x:=.inLoop c) rfl (fun _ _=>.inl (by simp)) harr⟩
   | panic ch=>exact ⟨_,a₁,w₁,⟨s',hq,hat'⟩,.pass (x:=.inLoop c) rfl (fun _ _=>.inl (by simp)) harr⟩
   | outgrown=>exact ⟨_,a₁,w₁,⟨s',hq,hat'⟩,.pass (x:=.inLoop c) rfl (fun _ _=>.inl (by simp)) harr⟩
 obtain ⟨e,a',w',hq,harr⟩:=key _ x0 a w rfl h0 (hs a w ha)
 exact ⟨e,a',w',hq,.of_steps (.one step_loop) harr⟩
end
section
def GOps (K:Ctx) (ops:Array Oper) (Q:Exit→GS→Prop) (l:List Nat) (s:GS):Prop:=
 ∀ a w,At K s a w→wpOps K.P ops (fun e a' w'=>∃ s',Q e s'∧At K s' a' w') l a w
variable {K:Ctx} {ops:Array Oper} {Q:Exit→GS→Prop} {s:GS}
theorem gN (h:Q .normal s):GOps K ops Q [] s:=fun _ _ ha=>⟨s,h,ha⟩
theorem G_region {id:Nat} (n:Nat) (l:List Nat) (hn:ops.size=n) (hl:List.range n=l) (h:GOps K ops Q l s):
 G K (.region id ops false) Q s:=fun a w ha=>wp_region (by rw [hn,hl];exact h a w ha)
def Yld (K:Ctx) (o:Oper) (s s':GS):Prop:=
 ∀ a w,At K s a w→∃ v w',(execOp a.eval o).run K.P w=.ok (.value v) w'∧At K s' (a.put o.dst v) w'
def Does (K:Ctx) (o:Oper) (s s':GS):Prop:=
 ∀ a w,At K s a w→∃ w',(execOp a.eval o).run K.P w=.ok .skip w'∧At K s' (a.put o.dst undef) w'
variable {s':GS} {i:Nat} {rest:List Nat} {o:Oper}
theorem GOps_val (ho:ops[i]? = some o) (hg:o.guard=none)
 (hy:Yld K o s s') (h:GOps K ops Q rest s'):GOps K ops Q (i :: rest) s:=by
 intro a w ha
 obtain ⟨v,w',hr,ha'⟩:=hy a w ha
 simp only [wpOps,ho,Region.wanted,hg,if_true]
 exact .inl (by simp only [Oper.wp,hr,Oper.upon_value];exact h _ _ ha')
theorem GOps_act (ho:ops[i]? = some o) (hg:o.guard=none)
 (hy:Does K o s s') (h:GOps K ops Q rest s'):GOps K ops Q (i :: rest) s:=by
 intro a w ha
 obtain ⟨w',hr,ha'⟩:=hy a w ha
 simp only [wpOps,ho,Region.wanted,hg,if_true]
 exact .inl (by simp only [Oper.wp,hr,Oper.upon_skip];exact h _ _ ha')
def ofConst:Value→PV
 | .int k n=>.d (.int k n)
 | .bool b=>.d (.bool b)
 | .string s=>.d (.str s)
 | .pointer none=>.d .nil
 | .slice none 0 0=>.nils
 | .nilFunc=>.d .nilF
 | .nilIface=>.d .nilI
 | .iface t (.int k n)=>.d (.iface t (.int k n))
 | .iface t (.string s)=>.d (.iface t (.str s))
 | .map none=>.d .nilM
 | _=>.undef
theorem ofConst_rp (w:World) (S:Reg) (O:Owns) (m:List Nat) (l:List Nat) (v:Value):RP w S O m l (ofConst v) v:=by
 unfold ofConst
 split
 · exact .d _ _ _ (.int _ _)
 · exact .d _ _ _ (.bool _)
 · exact .d _ _ _ (.str _)
 · exact .d _ _ _ .nil
 · exact .nils _
 · exact .d _ _ _ .nilF
 · exact .d _ _ _ .nilI
 · exact .d _ _ _ (.iface _ _ _ (.int _ _))
 · exact .d _ _ _ (.iface _ _ _ (.str _))
 · exact .d _ _ _ .nilM
 · exact .undef _ _
def GS.ev (s:GS):Operand→PV
 | .tmp t=>(s.get t).getD .undef
 | .const v=>ofConst v
 | .global _=>.undef
 | .func f=>.fn (.func f) [] []
variable {S:Reg} {O:Owns} {m:List Nat} {w:World}
theorem Rep.ev {a:Act} (h:Rep K S O m s a w) (x:Operand):
 ∃ l,RP w S O m l (s.ev x) (a.eval x):=by
 cases x with
 | tmp t=>
  cases hg:s.get t with
  | none=>exact ⟨[],by simp only [GS.ev,hg,Option.getD_none];exact .undef _ _⟩
  | some p=>exact ⟨[t,0],by simp only [GS.ev,hg,Option.getD_some];exact h.slots t p hg⟩
 | const v=>exact ⟨[],ofConst_rp _ _ _ _ _ v⟩
 | global g=>exact ⟨[],.undef _ _⟩
 | func f=>exact ⟨[],.fn _ _ _ _ _ _ rfl rfl (fun i p v h=>by simp at h) (fun i p v h=>by simp at h)⟩
theorem Rep.evd {a:Act} (h:Rep K S O m s a w) {x:Operand} {d:D} (hx:s.ev x=.d d):
 Rd w S d (a.eval x):=by
 obtain ⟨l,hr⟩:=h.ev x
 rw [hx] at hr
 cases hr with | d _ _ _ h=>exact h
variable {k:IntKind} {v:Value}
theorem rd_int {n:Int} (h:Rd w S (.int k n) v):v=.int k n:=by cases h;rfl
theorem rd_bool {b:Bool} (h:Rd w S (.bool b) v):v=.bool b:=by cases h;rfl
theorem rd_str {b:ByteArray} (h:Rd w S (.str b) v):v=.string b:=by cases h;rfl
theorem getD_put (a:Act) (t i:Nat) (v:Value) (ht:t < a.tmps.size):(a.put (some t) v).tmps.getD i undef=if i=t then v else a.tmps.getD i undef:=by
 simp only [Act.put,Array.getD_eq_getD_getElem?,Array.getElem?_setIfInBounds]
 by_cases h:t=i
 · subst h;simp [ht]
 · simp [h,Ne.symm h]
theorem GS.get_set (s:GS) (t i:Nat) (p:PV):(s.set t p).get i=if i=t then some p else s.get i:=by
 simp only [GS.get,GS.set,List.lookup_cons]
 by_cases h:i=t
 · subst h;simp
 · have:(i == t)=false:=by simpa using h
   simp [this,h]
theorem Rep.put {a:Act} (h:Rep K S O m s a w) {t:Nat} (ht:t < K.n) {p:PV} {v:Value}
 (hp:RP w S O m [t,0] p v):Rep K S O m (s.set t p) (a.put (some t) v) w where
 env:=h.env
 defers:=h.defers
 size:=by simp [Act.put,h.size]
 pre:=h.pre
 slots:=fun i q hq=>by
  rw [getD_put _ _ _ _ (by rw [h.size];exact ht)]
  rw [GS.get_set] at hq
  by_cases hi:i=t
  · rw [if_pos hi] at hq ⊢;injection hq with hq;subst hq;subst hi;exact hp
  · rw [if_neg hi] at hq ⊢;exact h.slots i q hq
def Sreg (K:Ctx) (S:Reg) (m:List Nat):Reg:=fun b o=>S b o∨∃ i:Nat,m[i]? = some b∧K.Bs.contains i=false
def Qy (K:Ctx) (o:Oper) (s:GS) (_t:Nat) (p:PV):Prop:=
 ∀ S O m a w,Rep K S O m s a w→∃ v,(∀ w',Ext (Sreg K S m) w w'→(execOp a.eval o).run K.P w'=.ok (.value v) w')∧RP w S O m [_t,0] p v
variable {t:Nat} {p:PV}
theorem Yld_pure (hd:o.dst=some t) (ht:t < K.n) (h:Qy K o s t p):Yld K o s (s.set t p):=by
 rintro a w ⟨S,O,m,hr⟩
 obtain ⟨v,h1,h2⟩:=h S O m a w hr
 exact ⟨v,w,h1 w (Ext.refl _ w),S,O,m,by rw [hd];exact hr.put ht h2⟩
variable {x:Operand} {ty:TypeId} {pos:String} {af:Array Edge} {g:Option (Nat×Bool)}
theorem Q_move (hp:s.ev x=p) (ht:t < K.n):
 Qy K ⟨some t,.move x,ty,pos,af,g⟩ s t p.copy:=by
 subst hp
 refine fun S O m a w hr=>⟨a.eval x,fun _ _=>rfl,?_⟩
 obtain ⟨l,h⟩:=hr.ev x
 exact h.copy _ _
theorem Q_assign (hp:s.ev x=p) (ht:t < K.n):
 Qy K ⟨some t,.assign x,ty,pos,af,g⟩ s t p.copy:=by
 subst hp
 refine fun S O m a w hr=>⟨a.eval x,fun _ _=>rfl,?_⟩
 obtain ⟨l,h⟩:=hr.ev x
 exact h.copy _ _
variable {yt rt:TypeId} {y:Operand} {a b:Int}
theorem Q_cmp {op:BinOp} {r:Bool}
 (hx:s.ev x=.d (.int k a)) (hy:s.ev y=.d (.int k b)) (hr:Op.intCmp op a b=pure (.bool r))
 (ho:op=.eql∨op=.neq∨op=.lss∨op=.leq∨op=.gtr∨op=.geq) (ht:t < K.n):
 Qy K ⟨some t,.binOp op ty x y yt,rt,pos,af,g⟩ s t (.d (.bool r)):=by
 refine fun S O m ac w h=>⟨.bool r,fun w _=>?_,.d _ _ _ (.bool r)⟩
 have h1:=rd_int (h.evd hx)
 have h2:=rd_int (h.evd hy)
 have hb:binOp op ty (.int k a) (.int k b)=Op.intCmp op a b:=by
  rcases ho with rfl | rfl | rfl | rfl | rfl | rfl<;>simp [binOp]
 have hg:eqGuard op ty x y (.int k a) (.int k b)=pure ():=by
  rcases ho with rfl | rfl | rfl | rfl | rfl | rfl<;>simp [eqGuard]
 simp only [execOp,h1,h2,hg,hb,hr]
 rfl
theorem Q_eql
 (hx:s.ev x=.d (.int k a)) (hy:s.ev y=.d (.int k b)) (ht:t < K.n):Qy K ⟨some t,.binOp .eql ty x y yt,rt,pos,af,g⟩ s t (.d (.bool (a == b))):=
 Q_cmp hx hy rfl (by simp) ht
theorem Q_neq
 (hx:s.ev x=.d (.int k a)) (hy:s.ev y=.d (.int k b)) (ht:t < K.n):Qy K ⟨some t,.binOp .neq ty x y yt,rt,pos,af,g⟩ s t (.d (.bool (a != b))):=
 Q_cmp hx hy rfl (by simp) ht
theorem Q_lss
 (hx:s.ev x=.d (.int k a)) (hy:s.ev y=.d (.int k b)) (ht:t < K.n):Qy K ⟨some t,.binOp .lss ty x y yt,rt,pos,af,g⟩ s t (.d (.bool (decide (a < b)))):=
 Q_cmp hx hy rfl (by simp) ht
theorem Q_leq
 (hx:s.ev x=.d (.int k a)) (hy:s.ev y=.d (.int k b)) (ht:t < K.n):Qy K ⟨some t,.binOp .leq ty x y yt,rt,pos,af,g⟩ s t (.d (.bool (decide (a≤b)))):=
 Q_cmp hx hy rfl (by simp) ht
theorem Q_gtr
 (hx:s.ev x=.d (.int k a)) (hy:s.ev y=.d (.int k b)) (ht:t < K.n):Qy K ⟨some t,.binOp .gtr ty x y yt,rt,pos,af,g⟩ s t (.d (.bool (decide (a > b)))):=
 Q_cmp hx hy rfl (by simp) ht
theorem Q_geq
 (hx:s.ev x=.d (.int k a)) (hy:s.ev y=.d (.int k b)) (ht:t < K.n):Qy K ⟨some t,.binOp .geq ty x y yt,rt,pos,af,g⟩ s t (.d (.bool (decide (a ≥ b)))):=
 Q_cmp hx hy rfl (by simp) ht
theorem Q_ar {op:BinOp} {c:Int}
 (hx:s.ev x=.d (.int k a)) (hy:s.ev y=.d (.int k b)) (hr:Op.intArith op k a b=pure (.int k (k.wrap c)))
 (ho:op=.add∨op=.sub∨op=.mul) {r:Int} (hw:k.wrap c=r) (ht:t < K.n):
 Qy K ⟨some t,.binOp op ty x y yt,rt,pos,af,g⟩ s t (.d (.int k r)):=by
 subst hw
 refine fun S O m ac w h=>⟨.int k (k.wrap c),fun w _=>?_,.d _ _ _ (.int _ _)⟩
 have h1:=rd_int (h.evd hx)
 have h2:=rd_int (h.evd hy)
 have hb:binOp op ty (.int k a) (.int k b)=Op.intArith op k a b:=by
  rcases ho with rfl | rfl | rfl<;>simp [binOp]
 have hg:eqGuard op ty x y (.int k a) (.int k b)=pure ():=by
  rcases ho with rfl | rfl | rfl<;>simp [eqGuard]
 simp only [execOp,h1,h2,hg,hb,hr]
 rfl
variable {r:Int}
theorem Q_add
 (hx:s.ev x=.d (.int k a)) (hy:s.ev y=.d (.int k b)) (hw:k.wrap (a + b)=r) (ht:t < K.n):
 Qy K ⟨some t,.binOp .add ty x y yt,rt,pos,af,g⟩ s t (.d (.int k r)):=Q_ar hx hy rfl (by simp) hw ht
theorem Q_sub
 (hx:s.ev x=.d (.int k a)) (hy:s.ev y=.d (.int k b)) (hw:k.wrap (a - b)=r) (ht:t < K.n):
 Qy K ⟨some t,.binOp .sub ty x y yt,rt,pos,af,g⟩ s t (.d (.int k r)):=Q_ar hx hy rfl (by simp) hw ht
theorem Q_mul
 (hx:s.ev x=.d (.int k a)) (hy:s.ev y=.d (.int k b)) (hw:k.wrap (a * b)=r) (ht:t < K.n):
 Qy K ⟨some t,.binOp .mul ty x y yt,rt,pos,af,g⟩ s t (.d (.int k r)):=Q_ar hx hy rfl (by simp) hw ht
theorem byteList_beq (x y:ByteArray):(x.toList == y.toList)=decide (x=y):=by
 rw [ByteArray.toList_eq,ByteArray.toList_eq,Bool.eq_iff_iff]
 simp only [beq_iff_eq,decide_eq_true_eq]
 exact ⟨fun h=>ByteArray.ext (Array.ext' h),fun h=>by rw [h]⟩
theorem Q_streq {a b:ByteArray}
 (hx:s.ev x=.d (.str a)) (hy:s.ev y=.d (.str b)) (ht:t < K.n):
 Qy K ⟨some t,.binOp .eql ty x y yt,rt,pos,af,g⟩ s t (.d (.bool (decide (a=b)))):=by
 refine fun S O m ac w h=>⟨.bool (decide (a=b)),fun w _=>?_,.d _ _ _ (.bool _)⟩
 have h1:=rd_str (h.evd hx)
 have h2:=rd_str (h.evd hy)
 simp only [execOp,h1,h2]
 simp [eqGuard,binOp,Op.stringOp,byteList_beq]
theorem Q_strne {a b:ByteArray}
 (hx:s.ev x=.d (.str a)) (hy:s.ev y=.d (.str b)) (ht:t < K.n):
 Qy K ⟨some t,.binOp .neq ty x y yt,rt,pos,af,g⟩ s t (.d (.bool (!decide (a=b)))):=by
 refine fun S O m ac w h=>⟨.bool (!decide (a=b)),fun w _=>?_,.d _ _ _ (.bool _)⟩
 have h1:=rd_str (h.evd hx)
 have h2:=rd_str (h.evd hy)
 simp only [execOp,h1,h2]
 simp [eqGuard,binOp,Op.stringOp,byteList_beq]
theorem Q_stradd {a b:ByteArray}
 (hx:s.ev x=.d (.str a)) (hy:s.ev y=.d (.str b)) (hl:a.size + b.size≤lim) (ht:t < K.n):
 Qy K ⟨some t,.binOp .add ty x y yt,rt,pos,af,g⟩ s t (.d (.str (a++b))):=by
 refine fun S O m ac w h=>⟨.string (a++b),fun w _=>?_,.d _ _ _ (.str _)⟩
 have h1:=rd_str (h.evd hx)
 have h2:=rd_str (h.evd hy)
 unfold lim at hl
 have hn:¬ IntKind.i64.max < (a.size:Int) + (b.size:Int):=by
  have:IntKind.i64.max=9223372036854775807:=by decide
  omega
 simp only [execOp,h1,h2]
 simp [eqGuard,binOp,Op.stringOp,hn]
 omega
theorem Q_booleq {a b:Bool}
 (hx:s.ev x=.d (.bool a)) (hy:s.ev y=.d (.bool b)) (hu:K.P.underlying ty=some .bool) (ht:t < K.n):
 Qy K ⟨some t,.binOp .eql ty x y yt,rt,pos,af,g⟩ s t (.d (.bool (a == b))):=by
 refine fun S O m ac w h=>⟨.bool (a == b),fun w _=>?_,.d _ _ _ (.bool _)⟩
 have h1:=rd_bool (h.evd hx)
 have h2:=rd_bool (h.evd hy)
 have he:(Op.equal ty (.bool a) (.bool b)).run K.P w=.ok (a == b) w:=by
  rw [Op.equal,show Op.maxDepth=9999 + 1 from rfl,Op.equalIn]
  simp [run_underlying hu]
 simp only [execOp,h1,h2]
 have hb:binOp .eql ty (.bool a) (.bool b)=(do pure (.bool (← Op.equal ty (.bool a) (.bool b)))):=by rfl
 simp only [hb]
 simp [eqGuard,he]
theorem Q_not {a:Bool}
 (hx:s.ev x=.d (.bool a)) (ht:t < K.n):Qy K ⟨some t,.unOp .not ty x,rt,pos,af,g⟩ s t (.d (.bool (!a))):=by
 refine fun S O m ac w h=>⟨.bool (!a),fun w _=>?_,.d _ _ _ (.bool _)⟩
 have h1:=rd_bool (h.evd hx)
 simp only [execOp,h1]
 simp [Op.unary]
def Under (b:Prop) (p:PV) (d:D):Prop:=∀ (w:World) (S:Reg) (O:Owns) (m l:List Nat) (v:Value),b→RP w S O m l p v→Rd w S d v
theorem under_d (b:Prop) (d:D):Under b (.d d) d:=fun _ _ _ _ _ _ _ h=>by cases h with | d _ _ _ h=>exact h
theorem under_when {b:Prop} (c:Bool) (d:D) (h:b→c=true):Under b (.when c (.d d)) d:=fun w S O m l v hb hr=>by
 have:=h hb;subst this
 cases hr with
 | whenT _ _ _ _ _ h=>exact under_d True d w S O m l v trivial h
 | whenF _ _ _ hf=>cases hf
variable {c:Operand} {u:Bool}
theorem Q_pickb {b v:Bool}
 (hc:s.ev c=.d (.bool b)) (hx:Under (b=true) (s.ev x) (.bool u)) (hy:Under (b=false) (s.ev y) (.bool v)) (ht:t < K.n) {r:Bool} (hr:(bif b then u else v)=r):
 Qy K ⟨some t,.pick c x y,ty,pos,af,g⟩ s t (.d (.bool r)):=by
 subst hr
 refine fun S O m ac w h=>⟨.bool (bif b then u else v),fun w _=>?_,.d _ _ _ (.bool _)⟩
 have h1:=rd_bool (h.evd hc)
 obtain ⟨l1,hx1⟩:=h.ev x
 obtain ⟨l2,hy1⟩:=h.ev y
 simp only [execOp,h1]
 cases b with
 | true=>have:=rd_bool (hx _ _ _ _ _ _ rfl hx1);simp [asBool,this]
 | false=>have:=rd_bool (hy _ _ _ _ _ _ rfl hy1);simp [asBool,this]
theorem Q_and {b:Bool}
 (hc:s.ev c=.d (.bool b)) (hx:Under (b=true) (s.ev x) (.bool u)) (ht:t < K.n):
 Qy K ⟨some t,.pick c x (.const (.bool false)),ty,pos,af,g⟩ s t (.d (.bool (b && u))):=
 Q_pickb hc hx (under_d _ _) ht (by cases b<;>rfl)
theorem Q_or {b:Bool}
 (hc:s.ev c=.d (.bool b)) (hy:Under (b=false) (s.ev y) (.bool u)) (ht:t < K.n):
 Qy K ⟨some t,.pick c (.const (.bool true)) y,ty,pos,af,g⟩ s t (.d (.bool (b || u))):=
 Q_pickb hc (under_d _ _) hy ht (by cases b<;>rfl)
def PV.guard:PV→Bool→Option Bool
 | .d (.bool b),want=>some (b == want)
 | .when c p,want=>match PV.guard p want with | some g=>some (c && g) | none=>none
 | _,_=>none
def boolOf:Value→Option Bool
 | .bool b=>some b
 | _=>none
theorem RP.guard {l:List Nat} {q:PV} (h:RP w S O m l q v) (want:Bool):∀ g,q.guard want=some g→(boolOf v == some want)=g:=by
 induction h with
 | d l x v h=>
  intro g hg
  cases h<;>simp only [PV.guard] at hg<;>first | (cases hg;rename_i b;cases b<;>cases want<;>rfl) | cases hg
 | whenT l b p v hb _ ih=>
  intro g hg
  subst hb
  simp only [PV.guard] at hg
  split at hg
  · rename_i g' hg'
    injection hg with hg
    subst hg
    rw [Bool.true_and]
    exact ih g' hg'
  · cases hg
 | whenF l b p hb=>
  intro g hg
  subst hb
  simp only [PV.guard] at hg
  split at hg
  · injection hg with hg
  · cases hg
 | nils=>intro g hg;simp [PV.guard] at hg
 | osl=>intro g hg;simp [PV.guard] at hg
 | ref=>intro g hg;simp [PV.guard] at hg
 | rsl=>intro g hg;simp [PV.guard] at hg
 | mref=>intro g hg;simp [PV.guard] at hg
 | ifr=>intro g hg;simp [PV.guard] at hg
 | fn=>intro g hg;simp [PV.guard] at hg
 | agg=>intro g hg;simp [PV.guard] at hg
 | tup=>intro g hg;simp [PV.guard] at hg
 | undef=>intro g hg;simp [PV.guard] at hg
theorem wanted_of {a:Act} (h:Rep K S O m s a w) {ops:Array Oper} {j t:Nat} {oj:Oper} {q:PV} {want g:Bool}
 (hj:ops[j]? = some oj) (hd:oj.dst=some t) (hs:s.get t=some q) (ht:t < K.n) (hq:q.guard want=some g):(yielded ops a.tmps j == some want)=g:=by
 have hv:=(h.slots t q hs).guard want g hq
 have hlt:t < a.tmps.size:=by rw [h.size];exact ht
 rw [Array.getD_eq_getD_getElem?,Array.getElem?_eq_getElem hlt,Option.getD_some] at hv
 simp only [yielded,hj,Option.bind_some,hd]
 rw [Array.getElem?_eq_getElem hlt]
 rw [← hv]
 cases a.tmps[t]<;>rfl
theorem GOps_guard {j u:Nat} {want b:Bool} {oj:Oper} {q:PV}
 (ho:ops[i]? = some o) (hg:o.guard=some (j,want)) (hj:ops[j]? = some oj) (hjd:oj.dst=some u) (hs:s.get u=some q) (hq:q.guard want=some b) (hu:u < K.n)
 (hd:o.dst=some t) (ht:t < K.n) (hy:b=true→Yld K o s (s.set t p)) (h:GOps K ops Q rest (s.set t (.when b p))):GOps K ops Q (i :: rest) s:=by
 rintro a w ⟨S,O,m,hr⟩
 have hyl:=wanted_of hr hj hjd hs hu hq
 by_cases hb:b=true
 · obtain ⟨v,w',hrun,S',O',m',hr'⟩:=hy hb a w ⟨S,O,m,hr⟩
   have hw:Region.wanted o (yielded ops a.tmps)=true:=by simp only [Region.wanted,hg];rw [hyl,hb]
   simp only [wpOps,ho,hw,if_true]
   have hat:At K (s.set t (.when b p)) (a.put o.dst v) w':=by
    refine ⟨S',O',m',hr'.env,hr'.defers,hr'.size,hr'.pre,fun i q hq=>?_⟩
    rw [GS.get_set] at hq
    by_cases hi:i=t
    · rw [if_pos hi] at hq;injection hq with hq;subst hq;subst hi
      exact .whenT _ _ _ _ hb (hr'.slots i p (by rw [GS.get_set,if_pos rfl]))
    · rw [if_neg hi] at hq;exact hr'.slots i q (by rw [GS.get_set,if_neg hi];exact hq)
   exact .inl (by simp only [Oper.wp,hrun,Oper.upon_value];exact h _ _ hat)
 · have hbf:b=false:=by simpa using hb
   have hw:Region.wanted o (yielded ops a.tmps)=false:=by simp only [Region.wanted,hg];rw [hyl,hbf]
   simp only [wpOps,ho,hw,if_false,Bool.false_eq_true]
   refine h _ _ ⟨S,O,m,?_⟩
   rw [hd]
   refine hr.put ht ?_
   exact .whenF _ _ _ hbf
theorem G_cond {x y:Code} {b:Bool} (hc:s.ev c=.d (.bool b)) (hx:b=true→G K x Q s) (hy:b=false→G K y Q s):
 G K (.cond c x y) Q s:=by
 rintro a w ⟨S,O,m,hr⟩
 refine wp_cond_split (rd_bool (hr.evd hc)) (fun h=>hx h a w ⟨S,O,m,hr⟩) (fun h=>hy h a w ⟨S,O,m,hr⟩)
def Le (K:Ctx) (s s':GS):Prop:=∀ a w,At K s a w→At K s' a w
theorem Le.refl (K:Ctx) (s:GS):Le K s s:=fun _ _ h=>h
theorem G_le {c:Code} (h:Le K s s') (hg:G K c Q s'):G K c Q s:=fun a w ha=>hg a w (h a w ha)
theorem Q_nilCheck {d:D} (hx:s.ev x=.d (.ptr d)) (ht:t < K.n):
 Qy K ⟨some t,.nilCheck x,ty,pos,af,g⟩ s t (.d (.ptr d)):=by
 refine fun S O m a w hr=>?_
 have h:=hr.evd hx
 refine ⟨a.eval x,?_,.d _ _ _ h⟩
 generalize hv:a.eval x=v at h ⊢
 cases h with
 | ptr d a hs hc h=>intro w _;simp only [execOp,hv];rfl
end
end Go.Proofs.YtoonleefemkalaaDoor.E
