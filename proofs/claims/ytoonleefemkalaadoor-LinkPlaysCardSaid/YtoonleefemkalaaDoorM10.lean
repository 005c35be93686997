import Derived.Test.YtoonleefemkalaaDoorM9
import Derived.LoopN
/- Contracts of functions. Conditions: none. -/
set_option linter.unusedSimpArgs false
set_option linter.unusedVariables false
namespace Go.Proofs.YtoonleefemkalaaDoor.E
open Go
section
inductive Obl:List (Bool×Bool)→Prop
 | nil:Obl []
 | same {b:Bool} {r:List (Bool×Bool)}:Obl r→Obl ((b,b) :: r)
 | imp {b c:Bool} {r:List (Bool×Bool)}:(b=true→c=true)→Obl r→Obl ((b,c) :: r)
theorem Obl.get {l:List (Bool×Bool)} (h:Obl l):∀ x ∈ l,x.1=true→x.2=true:=by
 induction h with
 | nil=>intro x hx;cases hx
 | same _ ih=>
  intro x hx h
  rcases List.mem_cons.1 hx with rfl | hx
  · exact h
  · exact ih x hx h
 | imp hi _ ih=>
  intro x hx h
  rcases List.mem_cons.1 hx with rfl | hx
  · exact hi h
  · exact ih x hx h
def taken (t:Nat):List Oper→Bool
 | []=>false
 | o :: r=>match o.op with
  | .call c=>match c.callee with
   | .builtin .append=>match c.args.toList with
    | .tmp u :: _=>match Nat.beq u t with
     | true=>true
     | false=>taken t r
    | _=>taken t r
   | _=>taken t r
  | _=>taken t r
def gdOf:PV→Bool→Option Bool
 | .d (.bool b),true=>some b
 | .d (.bool b),false=>some (!b)
 | .when c p,w=>match gdOf p w with
  | some g=>some (c && g)
  | none=>none
 | _,_=>none
theorem gdOf_eq:∀ (p:PV) (w g:Bool),gdOf p w=some g→p.guard w=some g
 | .d (.bool b),true,g,h=>by injection h with h;subst h;rw [PV.guard];cases b<;>rfl
 | .d (.bool b),false,g,h=>by injection h with h;subst h;rw [PV.guard];cases b<;>rfl
 | .when c p,w,g,h=>by
  rw [gdOf] at h
  split at h
  · rename_i g' hg
    injection h with h;subst h
    rw [PV.guard,gdOf_eq p w g' hg]
  · cases h
def stripK {β:Sort _} (g:Bool):List Operand→List (Nat×PV)→List (Bool×Bool)→(List (Nat×PV)→List (Bool×Bool)→β)→β
 | [],sl,ob,k=>k sl ob
 | x :: r,sl,ob,k=>match x with
  | .tmp u=>match lk sl u with
   | .when c p=>stripK g r ((u,p) :: sl) ((g,c) :: ob) k
   | _=>stripK g r sl ob k
  | _=>stripK g r sl ob k
theorem stripK_of {β:Sort _} (g:Bool) (mem:List (List PV)):∀ (xs:List Operand) (sl:List (Nat×PV)) (ob:List (Bool×Bool)) (k:List (Nat×PV)→List (Bool×Bool)→β),
 ∃ sl' ob',stripK g xs sl ob k=k sl' ob'∧(g=true→(∀ x ∈ ob',x.1=true→x.2=true)→(∀ x ∈ ob,x.1=true→x.2=true)∧∀ (K:Ctx) (o:Oper) (t:Nat) (q:PV),Qy K o ⟨sl',mem⟩ t q→Qy K o ⟨sl,mem⟩ t q)
 | [],sl,ob,k=>⟨sl,ob,rfl,fun _ h=>⟨h,fun _ _ _ _ h=>h⟩⟩
 | x :: r,sl,ob,k=>by
  unfold stripK
  split
  · rename_i u
    split
    · rename_i c p hl
      obtain ⟨sl',ob',h1,h2⟩:=stripK_of g mem r ((u,p) :: sl) ((g,c) :: ob) k
      refine ⟨sl',ob',h1,fun hgt h=>?_⟩
      obtain ⟨h3,h4⟩:=h2 hgt h
      refine ⟨fun x hx=>h3 x (.tail _ hx),fun K o t q hq=>?_⟩
      exact sP u (lk_some hl (by intro h;cases h)) (h3 _ (.head _) hgt) (h4 K o t q hq)
    · exact stripK_of g mem r sl ob k
  · exact stripK_of g mem r sl ob k
def boolU:PV→Option (Bool×Option Bool)
 | .d (.bool u)=>some (u,none)
 | .when c (.d (.bool u))=>some (u,some c)
 | _=>none
def addO (f:Bool→Bool) (b:Bool):Option Bool→List (Bool×Bool)→List (Bool×Bool)
 | none,r=>r
 | some c,r=>(f b,c) :: r
def pickV (c x y:Operand) (b:Bool) (u v:Bool):PV:=match y with
 | .const (.bool false)=>.d (.bool (b && u))
 | _=>match x with
  | .const (.bool true)=>.d (.bool (b || v))
  | _=>.d (.bool (bif b then u else v))
def pstep {α:Type} (f:Bool→Bool) (sl:List (Nat×PV)) (c x y:Operand) (k:PV→List (Bool×Bool)→Option α):Option α:=match evl sl c with
 | .d (.bool b)=>match boolU (evl sl x) with
  | some (u,cu)=>match boolU (evl sl y) with
   | some (v,cv)=>frc (pickV c x y b u v) fun p=>k p (addO f b cu (addO f (!b) cv []))
   | none=>none
  | none=>none
 | _=>none
theorem boolU_of {p:PV} {u:Bool} {c:Option Bool} (h:boolU p=some (u,c)) (B:Prop) (hc:∀ c',c=some c'→B→c'=true):Under B p (.bool u):=by
 unfold boolU at h
 split at h
 · injection h with h;injection h with h1 h2;subst h1;exact under_d _ _
 · rename_i c' u'
   injection h with h;injection h with h1 h2;subst h1;subst h2;exact under_when _ _ (hc c' rfl)
 · cases h
theorem addO_of {f:Bool→Bool} {b:Bool} {c:Option Bool} {r:List (Bool×Bool)} (h:∀ x ∈ addO f b c r,x.1=true→x.2=true):(∀ c',c=some c'→f b=true→c'=true)∧∀ x ∈ r,x.1=true→x.2=true:=by
 cases c with
 | none=>exact ⟨fun _ h=>(by cases h),h⟩
 | some c=>exact ⟨fun c' hc hf=>by injection hc with hc;subst hc;exact h _ (.head _) hf,fun x hx=>h x (.tail _ hx)⟩
theorem pickV_of {K:Ctx} {s:GS} {t:Nat} {c x y:Operand} {ty:TypeId} {pos:String} {af:Array Edge} {g:Option (Nat×Bool)} {b u v:Bool} (hc:s.ev c=.d (.bool b)) (hx:Under (b=true) (s.ev x) (.bool u)) (hy:Under (b=false) (s.ev y) (.bool v)) (hxu:∀ z,x=.const (.bool z)→u=z) (hyv:∀ z,y=.const (.bool z)→v=z) (ht:t < K.n):Qy K ⟨some t,.pick c x y,ty,pos,af,g⟩ s t (pickV c x y b u v):=by
 unfold pickV
 split
 · exact Q_and hc hx ht
 · split
   · exact Q_or hc hy ht
   · exact Q_pickb hc hx hy ht rfl
theorem boolU_const {sl:List (Nat×PV)} {x:Operand} {u:Bool} {c:Option Bool} (h:boolU (evl sl x)=some (u,c)):∀ z,x=.const (.bool z)→u=z:=by
 rintro z rfl
 injection h with h;injection h with h _;exact h.symm
theorem pstep_of {α:Type} {K:Ctx} {s:GS} {f:Bool→Bool} {c x y:Operand} {k:PV→List (Bool×Bool)→Option α} {r:α} (h:pstep f s.slots c x y k=some r):
 ∃ p ob,k p ob=some r∧∀ (t:Nat) (ty:TypeId) (pos:String) (af:Array Edge) (g:Option (Nat×Bool)),t < K.n→(∀ b:Bool,b=true→f b=true)→(∀ x ∈ ob,x.1=true→x.2=true)→Qy K ⟨some t,.pick c x y,ty,pos,af,g⟩ s t p:=by
 unfold pstep at h
 split at h
 · rename_i b hc
   split at h
   · rename_i u cu hu
     split at h
     · rename_i v cv hv
       rw [frc_eq] at h
       refine ⟨_,_,h,fun t ty pos af g ht hf ho=>?_⟩
       obtain ⟨h1,h2⟩:=addO_of ho
       obtain ⟨h3,_⟩:=addO_of h2
       rw [evl_eq] at hc
       refine pickV_of hc ?_ ?_ (boolU_const hu) (boolU_const hv) ht
       · rw [evl_eq] at hu;exact boolU_of hu _ fun c' hc' hb=>h1 c' hc' (hf b hb)
       · rw [evl_eq] at hv;exact boolU_of hv _ fun c' hc' hb=>h3 c' hc' (hf (!b) (by rw [hb];rfl))
     · cases h
   · cases h
 · cases h
def takeV (sl:List (Nat×PV)) (mem:List (List PV)) (t u:Nat) (k:Option GS):Option GS:=match lk sl u with
 | .osl n xs=>match Nat.beq t u with
  | true=>none
  | false=>some ⟨(t,.osl n xs) :: (u,.d (.sl xs)) :: sl,mem⟩
 | _=>k
def loadT (T:List (Nat×TI)) (sl:List (Nat×PV)) (mem:List (List PV)) (t:Nat) (ty:TypeId) (x:Operand) (k:Option GS):Option GS:=match evl sl x with
 | .ref b off=>match nth mem b with
  | some cs=>match nth cs off with
   | some (.osl n xs)=>match plainB cs with
    | true=>match look T ty with
     | some i=>match i.leaf with
      | true=>setK cs off (.d (.sl xs)) fun cs'=>setK mem b cs' fun mem'=>some ⟨(t,.osl n xs) :: sl,mem'⟩
      | false=>none
     | none=>none
    | false=>none
   | _=>k
  | none=>k
 | _=>k
def storeV (T:List (Nat×TI)) (sl:List (Nat×PV)) (mem:List (List PV)) (ty:TypeId) (ad y:Operand):Option GS:=match look T ty with
 | none=>none
 | some i=>match evl sl ad with
  | .ref b off=>match nth mem b with
   | none=>none
   | some cs=>match plainB cs with
    | false=>none
    | true=>match fits (off + i.size) cs with
     | false=>none
     | true=>frc (evl sl y) fun p=>match sizeIs p.cellsOf i.size with
      | false=>none
      | true=>match p.noown with
       | true=>match p.whole with
        | true=>splK cs off p.cellsOf i.size fun cs'=>setK mem b cs' fun mem'=>some ⟨sl,mem'⟩
        | false=>none
       | false=>match y with
        | .tmp u=>match p.flat with
         | true=>splK cs off p.cellsOf i.size fun cs'=>setK mem b cs' fun mem'=>cpy p fun p'=>some ⟨(u,p') :: sl,mem'⟩
         | false=>none
        | _=>none
  | _=>none
def vput (T:List (Nat×TI)) (sl:List (Nat×PV)) (mem:List (List PV)) (t:Nat) (op:Op):Option GS:=match qv T true sl mem op with
 | some p=>some ⟨(t,p) :: sl,mem⟩
 | none=>none
def vstep (T:List (Nat×TI)) (ops:List Oper) (n:Nat) (o:Oper) (sl:List (Nat×PV)) (mem:List (List PV)):Option GS:=match o.dst with
 | none=>match o.op with
  | .store ty ad y=>storeV T sl mem ty ad y
  | _=>none
 | some t=>match Nat.blt t n with
  | false=>none
  | true=>match o.op with
   | .alloc ty=>match look T ty with
    | some i=>zpvK i.zs fun zs=>lenK mem fun b=>snocK mem zs fun mem'=>some ⟨(t,.ref b 0) :: sl,mem'⟩
    | none=>none
   | .makeMap _ r=>match r with
    | none=>lenK mem fun b=>snocK mem (mpc [] []) fun mem'=>some ⟨(t,.mref b) :: sl,mem'⟩
    | some _=>none
   | .build ty parts=>match look T ty with
    | none=>none
    | some i=>match i.kind with
     | .array _ m=>zpvK i.zs fun zs=>prtK sl parts.toList fun ps=>match bfillA m zs ps with
      | some cs=>match PV.toDs cs with
       | some ds=>some ⟨(t,.d (.agg ds)) :: sl,mem⟩
       | none=>copiesK cs fun qs=>some ⟨(t,.agg qs) :: sl,mem⟩
      | none=>none
     | _=>vput T sl mem t (.build ty parts)
   | .box _ x=>frc (evl sl x) fun p=>match p.whole with
    | true=>copiesK p.cellsOf fun cs=>lenK mem fun b=>snocK mem cs fun mem'=>some ⟨(t,.ref b 0) :: sl,mem'⟩
    | false=>none
   | .assign x=>match x with
    | .tmp u=>takeV sl mem t u (vput T sl mem t (.assign (.tmp u)))
    | x=>vput T sl mem t (.assign x)
   | .move x=>match x with
    | .tmp u=>match taken t ops with
     | true=>takeV sl mem t u (vput T sl mem t (.move (.tmp u)))
     | false=>vput T sl mem t (.move (.tmp u))
    | x=>vput T sl mem t (.move x)
   | .load ty x=>match taken t ops with
    | true=>loadT T sl mem t ty x (vput T sl mem t (.load ty x))
    | false=>vput T sl mem t (.load ty x)
   | op=>vput T sl mem t op
def step (T:List (Nat×TI)) (ops:List Oper) (n i:Nat) (s:GS):Option (List (Bool×Bool)×GS):=match s with
 | ⟨sl,mem⟩=>match nth ops i with
  | none=>none
  | some o=>match o.guard with
   | none=>match o.op with
    | .pick c x y=>match o.dst with
     | some t=>match Nat.blt t n with
      | true=>pstep (fun b=>b) sl c x y fun p ob=>some (ob,⟨(t,p) :: sl,mem⟩)
      | false=>none
     | none=>none
    | _=>match vstep T ops n o sl mem with
     | some s'=>some ([],s')
     | none=>none
   | some (j,w)=>match nth ops j with
    | none=>none
    | some oj=>match oj.dst with
     | none=>none
     | some u=>match gdOf (lk sl u) w with
      | none=>none
      | some g=>match o.dst with
       | none=>none
       | some t=>match Nat.blt t n && Nat.blt u n with
        | false=>none
        | true=>match o.op with
         | .pick c x y=>stripK g [c] sl [] fun sl' ob=>pstep (fun b=>g && b) sl' c x y fun p ob'=>appK ob ob' fun ob=>some (ob,⟨(t,.when g p) :: sl,mem⟩)
         | op=>stripK g op.operands.toList sl [] fun sl' ob=>match qv T true sl' mem op with
          | some p=>some (ob,⟨(t,.when g p) :: sl,mem⟩)
          | none=>none
variable {K:Ctx} {T:List (Nat×TI)}
theorem blt_of {a b:Nat} (h:Nat.blt a b=true):a < b:=Nat.le_of_ble_eq_true h
theorem vput_of {o:Oper} {s s':GS} {t:Nat} (hT:tabB K.P T=true) (hd:o.dst=some t) (ht:t < K.n) (h:vput T s.slots s.mem t o.op=some s'):Yld K o s s':=by
 unfold vput at h
 split at h
 · rename_i p hp
   injection h with h
   subst h
   obtain ⟨d,op,rt,pos,af,g⟩:=o
   dsimp only at hd hp
   subst hd
   refine Yld_bs ?_
   exact Yld_pure (K:=⟨K.P,K.n,K.S0,K.O0,K.w0,K.m0,[],K.ds⟩) rfl ht (qv_of (own:=true) hT ht (fun _=>rfl) hp)
 · cases h
theorem takeV_of {o:Oper} {s s':GS} {t u:Nat} {k:Option GS} (ha:∀ n xs,s.get u=some (.osl n xs)→t ≠ u→Yld K o s ((s.set u (.d (.sl xs))).set t (.osl n xs))) (hk:k=some s'→Yld K o s s') (h:takeV s.slots s.mem t u k=some s'):Yld K o s s':=by
 unfold takeV at h
 split at h
 · rename_i n xs hl
   split at h
   · cases h
   · rename_i hb
     injection h with h
     subst h
     exact ha n xs (lk_some hl (by intro h;cases h)) (Nat.ne_of_beq_eq_false hb)
 · exact hk h
theorem loadT_of {s s':GS} {t:Nat} {ty rt:TypeId} {x:Operand} {pos:String} {af:Array Edge} {g:Option (Nat×Bool)} {k:Option GS} (hT:tabB K.P T=true) (ht:t < K.n) (hk:k=some s'→Yld K ⟨some t,.load ty x,rt,pos,af,g⟩ s s')
 (h:loadT T s.slots s.mem t ty x k=some s'):Yld K ⟨some t,.load ty x,rt,pos,af,g⟩ s s':=by
 unfold loadT at h
 split at h
 · rename_i b off hx
   rw [evl_eq] at hx
   split at h
   · rename_i cs hm
     rw [nth_eq] at hm
     split at h
     · rename_i n xs hc
       rw [nth_eq] at hc
       split at h
       · rename_i hpl
         split at h
         · rename_i i hl
           obtain ⟨d,hd,hle,_⟩:=(tabB_look hT hl).und
           split at h
           · rename_i hlf
             rw [setK_eq,setK_eq] at h
             injection h with h
             subst h
             exact Y_load_take hx hm hc hd (hle.trans hlf) hpl ht
           · cases h
         · cases h
       · cases h
     · exact hk h
   · exact hk h
 · exact hk h
theorem storeV_of {s s':GS} {ty rt:TypeId} {x y:Operand} {pos:String} {af:Array Edge} {g:Option (Nat×Bool)} (hT:tabB K.P T=true) (h:storeV T s.slots s.mem ty x y=some s'):Does K ⟨none,.store ty x y,rt,pos,af,g⟩ s s':=by
 unfold storeV at h
 split at h
 · cases h
 · rename_i i hl
   have hz:=(tabB_look hT hl).size
   split at h
   · rename_i b off hx
     rw [evl_eq] at hx
     split at h
     · cases h
     · rename_i cs hm
       rw [nth_eq] at hm
       split at h
       · cases h
       · rename_i hpl
         split at h
         · cases h
         · rename_i hf
           rw [frc_eq] at h
           split at h
           · cases h
           · rename_i hs
             have hs:=sizeIs_of _ _ hs
             split at h
             · rename_i hno
               split at h
               · rename_i hw
                 rw [splK_eq _ _ _ _ _ hs,setK_eq] at h
                 injection h with h
                 subst h
                 exact D_store hx hm (evl_eq s y).symm hno hw rfl hz hs (fits_of _ _ hf) hpl
               · cases h
             · rename_i hno
               split at h
               · split at h
                 · rename_i hfl
                   rw [splK_eq _ _ _ _ _ hs,setK_eq,cpy_eq] at h
                   injection h with h
                   subst h
                   exact D_store_take hx hm (lk_some rfl (by intro h0;rw [h0] at hno;cases hno)) hfl rfl hz hs (fits_of _ _ hf) hpl
                 · cases h
               · cases h
   · cases h
theorem vstep_of {ops:List Oper} {o:Oper} {s s':GS} (hT:tabB K.P T=true) (h:vstep T ops K.n o s.slots s.mem=some s'):Yld K o s s'∨Does K o s s':=by
 unfold vstep at h
 split at h
 · rename_i hd
   split at h
   · rename_i ty ad y ho
     obtain ⟨d,op,rt,pos,af,g⟩:=o
     dsimp only at hd ho
     subst hd;subst ho
     exact .inr (storeV_of hT h)
   · cases h
 · rename_i t hd
   split at h
   · cases h
   · rename_i hlt
     have ht:=blt_of hlt
     refine .inl ?_
     obtain ⟨d,op,rt,pos,af,g⟩:=o
     dsimp only at hd h
     subst hd
     split at h
     · rename_i ty
       split at h
       · rename_i i hl
         obtain ⟨z,hz,h1,hzs,_⟩:=(tabB_look hT hl).zero
         rw [zpvK_eq,lenK_eq,snocK_eq] at h
         injection h with h
         subst h
         exact Y_alloc hz h1 hzs ht
       · cases h
     · split at h
       · rw [lenK_eq,snocK_eq] at h
         injection h with h
         subst h
         exact Y_makeMap ht
       · cases h
     · rename_i ty parts
       split at h
       · cases h
       · rename_i i hl
         have hi:=tabB_look hT hl
         split at h
         · rename_i n m hk
           obtain ⟨d,hd,_,hd2⟩:=hi.und
           rw [hk] at hd2
           obtain ⟨z,hz,h1,hzs,_⟩:=hi.zero
           cases d with
           | array n' e=>
            rw [kndB,Bool.and_eq_true] at hd2
            rw [zpvK_eq,prtK_eq] at h
            split at h
            · rename_i cs hb
              have hb:=bfillA_of _ _ _ _ hb
              have hr:∀ r,mkAgg cs=r→s'=⟨(t,r) :: s.slots,s.mem⟩→Yld K ⟨some t,.build ty parts,rt,pos,af,g⟩ s s':=by
               intro r hr hs
               subst hs
               refine Y_buildA hd hz (sizB_of hd2.2) h1 hzs (ps:=parts.toList.map fun x=>(x.1,s.ev x.2)) rfl (cs':=cs) ?_ hr ht
               rw [← hb];congr 1;exact List.map_congr_left fun x _=>by rw [evl_eq]
              split at h
              · rename_i ds hds
                injection h with h
                exact hr _ (by unfold mkAgg;rw [hds]) h.symm
              · rename_i hds
                rw [copiesK_eq] at h
                injection h with h
                exact hr _ (by unfold mkAgg;rw [hds]) h.symm
            · cases h
           | _=>cases hd2
         · exact vput_of hT rfl ht h
     · rw [frc_eq] at h
       split at h
       · rename_i hw
         rw [copiesK_eq,lenK_eq,snocK_eq] at h
         injection h with h
         subst h
         exact Y_box (evl_eq _ _).symm hw rfl ht
       · cases h
     · split at h
       · exact takeV_of (fun n xs hg hne=>Y_assign_take hg hne ht) (fun hk=>vput_of hT rfl ht hk) h
       · exact vput_of hT rfl ht h
     · split at h
       · split at h
         · exact takeV_of (fun n xs hg hne=>Y_move_take hg hne ht) (fun hk=>vput_of hT rfl ht hk) h
         · exact vput_of hT rfl ht h
       · exact vput_of hT rfl ht h
     · split at h
       · exact loadT_of hT ht (fun hk=>vput_of hT rfl ht hk) h
       · exact vput_of hT rfl ht h
     · exact vput_of hT rfl ht h
theorem gv {ops:Array Oper} {Q:Exit→GS→Prop} {i:Nat} {rest:List Nat} {s s':GS} {ob:List (Bool×Bool)} (hT:tabB K.P T=true) (h:step T ops.toList K.n i s=some (ob,s')) (hg:GOps K ops Q rest s') (ho:Obl ob):GOps K ops Q (i :: rest) s:=by
 obtain ⟨sl,mem⟩:=s
 unfold step at h
 dsimp only at h
 split at h
 · cases h
 · rename_i o hn
   have hoi:ops[i]? = some o:=by rw [nth_eq] at hn;rw [← hn];simp
   split at h
   · rename_i hgd
     split at h
     · rename_i c x y hop
       split at h
       · rename_i t hd
         split at h
         · rename_i hlt
           obtain ⟨p,ob',hk,hq⟩:=pstep_of (K:=⟨K.P,K.n,K.S0,K.O0,K.w0,K.m0,[],K.ds⟩) (s:=⟨sl,mem⟩) h
           injection hk with hk
           injection hk with h1 h2
           subst h1;subst h2
           obtain ⟨d,op,rt,pos,af,g⟩:=o
           dsimp only at hd hop
           subst hd;subst hop
           exact GOps_val hoi hgd (Yld_bs (Yld_pure rfl (blt_of hlt) (hq t rt pos af g (blt_of hlt) (fun _ h=>h) ho.get))) hg
         · cases h
       · cases h
     · split at h
       · rename_i s1 hs1
         injection h with h
         injection h with h1 h2
         subst h1;subst h2
         rcases vstep_of (s:=⟨sl,mem⟩) hT hs1 with hy | hy
         · exact GOps_val hoi hgd hy hg
         · exact GOps_act hoi hgd hy hg
       · cases h
   · rename_i j w hgd
     split at h
     · cases h
     · rename_i oj hnj
       have hoj:ops[j]? = some oj:=by rw [nth_eq] at hnj;rw [← hnj];simp
       split at h
       · cases h
       · rename_i u hju
         split at h
         · cases h
         · rename_i gb hgb
           have hgb:=gdOf_eq _ _ _ hgb
           have hu:(GS.mk sl mem).get u=some (lk sl u):=lk_some rfl (by intro h0;rw [h0] at hgb;cases hgb)
           split at h
           · cases h
           · rename_i t hd
             split at h
             · cases h
             · rename_i hlt
               rw [Bool.and_eq_true] at hlt
               have ht:=blt_of hlt.1
               obtain ⟨d,op,rt,pos,af,g⟩:=o
               dsimp only at hd hgd h
               subst hd
               have fin:∀ (p:PV) (sx:GS),(gb=true→Qy ⟨K.P,K.n,K.S0,K.O0,K.w0,K.m0,[],K.ds⟩ ⟨some t,op,rt,pos,af,g⟩ ⟨sl,mem⟩ t p)→sx=⟨(t,.when gb p) :: sl,mem⟩→GOps K ops Q rest sx→GOps K ops Q (i :: rest) ⟨sl,mem⟩:=by
                intro p sx hq hs hgo
                subst hs
                exact GOps_guard hoi hgd hoj hju hu hgb (blt_of hlt.2) rfl ht (fun hb=>Yld_bs (Yld_pure rfl ht (hq hb))) hgo
               split at h
               · rename_i c x y
                 obtain ⟨sl',ob',h1,h2⟩:=stripK_of gb mem [c] sl [] (fun sl' ob=>pstep (fun b=>gb && b) sl' c x y fun p ob'=>appK ob ob' fun ob=>some (ob,(⟨(t,.when gb p) :: sl,mem⟩:GS)))
                 rw [h1] at h
                 obtain ⟨p,ob2,hk,hq⟩:=pstep_of (K:=⟨K.P,K.n,K.S0,K.O0,K.w0,K.m0,[],K.ds⟩) (s:=⟨sl',mem⟩) h
                 rw [appK_eq] at hk
                 injection hk with hk
                 injection hk with h3 h4
                 subst h3
                 exact fin p s' (fun hb=>(h2 hb (fun x hx=>ho.get x (List.mem_append_left _ hx))).2 _ _ _ _ (hq t rt pos af (some (j,w)) ht (fun b hb'=>by rw [hb,hb'];rfl) (fun x hx=>ho.get x (List.mem_append_right _ hx)))) h4.symm hg
               · obtain ⟨sl',ob',h1,h2⟩:=stripK_of gb mem op.operands.toList sl [] (fun sl' ob=>match qv T true sl' mem op with
                  | some p=>some (ob,(⟨(t,.when gb p) :: sl,mem⟩:GS))
                  | none=>none)
                 rw [h1] at h
                 split at h
                 · rename_i p hp
                   injection h with h
                   injection h with h3 h4
                   subst h3
                   exact fin p s' (fun hb=>(h2 hb ho.get).2 _ _ _ _ (qv_of (s:=⟨sl',mem⟩) (own:=true) hT ht (fun _=>rfl) hp)) h4.symm hg
                 · cases h
end
section
def idxK {α β:Type}:List α→List Nat→(List Nat→Option β)→Option β
 | [],_,k=>k []
 | _ :: r,n :: ns,k=>idxK r ns fun l=>k (n :: l)
 | _ :: _,[],_=>none
theorem idxK_of {α β:Type}:∀ (xs:List α) (ns:List Nat) (k:List Nat→Option β) (r:β),idxK xs ns k=some r→k (ns.take xs.length)=some r∧xs.length≤ns.length
 | [],ns,k,r,h=>⟨by rw [List.length_nil,List.take_zero];exact h,Nat.zero_le _⟩
 | _ :: xs,n :: ns,k,r,h=>by
  rw [idxK] at h
  obtain ⟨h1,h2⟩:=idxK_of xs ns _ r h
  exact ⟨by rw [List.length_cons,List.take_succ_cons];exact h1,by rw [List.length_cons,List.length_cons];omega⟩
 | _ :: _,[],_,_,h=>by cases h
variable {ops:Array Oper}
theorem nums_take (h:ops.toList.length≤nums.length):List.range ops.size=nums.take ops.toList.length:=by
 have h2:ops.size≤120:=h
 rw [nums_eq,List.take_range,Array.length_toList,Nat.min_eq_left h2]
def rnd (K:Ctx) (c:Code) (Q:Exit→GS→Prop):Nat→GS→Prop
 | 0,_=>False
 | n + 1,s=>G K c (fun e s'=>match e with
  | .normal=>rnd K c Q n s'
  | e=>Q e s') s
variable {K:Ctx} {c:Code} {Q:Exit→GS→Prop}
theorem G_rnd (n:Nat) {s:GS} (h:rnd K c Q n s):G K (.loop c) Q s:=by
 intro a w ha
 refine wp_loop_rounds n ?_
 induction n generalizing s a w with
 | zero=>exact h.elim
 | succ n ih=>
  rw [rounds_succ]
  refine wp_mono (h a w ha) ?_
  rintro e a' w' ⟨s',q,r⟩
  cases e with
  | normal=>exact ih q a' w' r
  | exit id=>exact ⟨s',q,r⟩
  | goto l=>exact ⟨s',q,r⟩
  | ret=>exact ⟨s',q,r⟩
  | panic ch=>exact ⟨s',q,r⟩
  | outgrown=>exact ⟨s',q,r⟩
inductive Fr where
 | rnd (c:Code) (n:Nat)
 | thn (y:Code)
 | blk (id:Nat)
 | scp
def unf (K:Ctx) (Q:Exit→GS→Prop):List Fr→Exit→GS→Prop
 | []=>Q
 | .rnd c n :: r=>fun e s=>match e with
  | .normal=>E.rnd K c (unf K Q r) n s
  | e=>unf K Q r e s
 | .thn y :: r=>thn K y (unf K Q r)
 | .blk id :: r=>inBlk id (unf K Q r)
 | .scp :: r=>inScp (unf K Q r)
inductive Cf where
 | code (c:Code)
 | ops (ops:Array Oper) (l:List Nat)
 | leave (e:Exit)
def GF (K:Ctx) (fr:List Fr) (c:Cf) (Q:Exit→GS→Prop) (s:GS):Prop:=match c with
 | .code c=>G K c (unf K Q fr) s
 | .ops ops l=>GOps K ops (unf K Q fr) l s
 | .leave e=>unf K Q fr e s
def noGoto:Exit→Bool
 | .goto _=>false
 | _=>true
def adv (T:List (Nat×TI)) (n:Nat) (fr:List Fr) (c:Cf) (s:GS):Option (List (Bool×Bool)×List Fr×Cf×GS):=match c with
 | .code c=>match c with
  | .skip=>some ([],fr,.leave .normal,s)
  | .ret=>some ([],fr,.leave .ret,s)
  | .exit id=>some ([],fr,.leave (.exit id),s)
  | .label _=>some ([],fr,.leave .normal,s)
  | .seq a b=>some ([],.thn b :: fr,.code a,s)
  | .block id b=>some ([],.blk id :: fr,.code b,s)
  | .scope b=>some ([],.scp :: fr,.code b,s)
  | .region _ ops d=>match d with
   | false=>idxK ops.toList nums fun l=>some ([],fr,.ops ops l,s)
   | true=>none
  | _=>none
 | .ops ops l=>match l with
  | []=>some ([],fr,.leave .normal,s)
  | i :: l=>match step T ops.toList n i s with
   | some (ob,s')=>some (ob,fr,.ops ops l,s')
   | none=>none
 | .leave e=>match fr with
  | []=>none
  | .rnd c n :: r=>match e with
   | .normal=>match n with
    | 0=>none
    | n + 1=>some ([],.rnd c n :: r,.code c,s)
   | e=>some ([],r,.leave e,s)
  | .thn y :: r=>match e with
   | .normal=>some ([],r,.code y,s)
   | e=>some ([],r,.leave e,s)
  | .blk id :: r=>match e with
   | .exit id'=>match Nat.beq id' id with
    | true=>some ([],r,.leave .normal,s)
    | false=>some ([],r,.leave (.exit id'),s)
   | e=>some ([],r,.leave e,s)
  | .scp :: r=>match noGoto e with
   | true=>some ([],r,.leave e,s)
   | false=>none
variable {fr:List Fr} {s:GS}
theorem adv_of {T:List (Nat×TI)} {fr':List Fr} {c c':Cf} {s':GS} {ob:List (Bool×Bool)} (hT:tabB K.P T=true) (h:adv T K.n fr c s=some (ob,fr',c',s')) (hg:GF K fr' c' Q s') (ho:Obl ob):GF K fr c Q s:=by
 unfold adv at h
 split at h
 · split at h
   · injection h with h;injection h with h1 h;injection h with h2 h;injection h with h3 h4;subst h1;subst h2;subst h3;subst h4;exact gK hg
   · injection h with h;injection h with h1 h;injection h with h2 h;injection h with h3 h4;subst h1;subst h2;subst h3;subst h4;exact gT hg
   · injection h with h;injection h with h1 h;injection h with h2 h;injection h with h3 h4;subst h1;subst h2;subst h3;subst h4;exact G_exit hg
   · injection h with h;injection h with h1 h;injection h with h2 h;injection h with h3 h4;subst h1;subst h2;subst h3;subst h4;exact G_label hg
   · injection h with h;injection h with h1 h;injection h with h2 h;injection h with h3 h4;subst h1;subst h2;subst h3;subst h4;exact zgS hg
   · injection h with h;injection h with h1 h;injection h with h2 h;injection h with h3 h4;subst h1;subst h2;subst h3;subst h4;exact G_block hg
   · injection h with h;injection h with h1 h;injection h with h2 h;injection h with h3 h4;subst h1;subst h2;subst h3;subst h4;exact G_scope hg
   · split at h
     · obtain ⟨h1,h2⟩:=idxK_of _ _ _ _ h
       injection h1 with h;injection h with h1 h;injection h with h3 h;injection h with h4 h5;subst h1;subst h3;subst h4;subst h5
       exact G_region _ _ rfl (nums_take h2) hg
     · cases h
   · cases h
 · split at h
   · injection h with h;injection h with h1 h;injection h with h2 h;injection h with h3 h4;subst h1;subst h2;subst h3;subst h4;exact gN hg
   · split at h
     · rename_i hs
       injection h with h;injection h with h1 h;injection h with h2 h;injection h with h3 h4;subst h1;subst h2;subst h3;subst h4
       exact gv hT hs hg ho
     · cases h
 · rename_i e
   split at h
   · cases h
   · split at h
     · split at h
       · cases h
       · injection h with h;injection h with h1 h;injection h with h2 h;injection h with h3 h4;subst h1;subst h2;subst h3;subst h4;exact hg
     · rename_i hne
       injection h with h;injection h with h1 h;injection h with h2 h;injection h with h3 h4;subst h1;subst h2;subst h3;subst h4
       cases e<;>first | exact absurd rfl hne | exact hg
   · split at h
     · injection h with h;injection h with h1 h;injection h with h2 h;injection h with h3 h4;subst h1;subst h2;subst h3;subst h4;exact hg
     · rename_i hne
       injection h with h;injection h with h1 h;injection h with h2 h;injection h with h3 h4;subst h1;subst h2;subst h3;subst h4
       cases e<;>first | exact absurd rfl hne | exact hg
   · split at h
     · rename_i id' 
       split at h
       · rename_i hb
         injection h with h;injection h with h1 h;injection h with h2 h;injection h with h3 h4;subst h1;subst h2;subst h3;subst h4
         rw [Nat.eq_of_beq_eq_true hb]
         exact blk_exit hg
       · rename_i hb
         injection h with h;injection h with h1 h;injection h with h2 h;injection h with h3 h4;subst h1;subst h2;subst h3;subst h4
         exact blk_other (Nat.ne_of_beq_eq_false hb) hg
     · rename_i hne
       injection h with h;injection h with h1 h;injection h with h2 h;injection h with h3 h4;subst h1;subst h2;subst h3;subst h4
       cases e<;>first | exact absurd rfl (hne _) | exact hg
   · split at h
     · rename_i hn
       injection h with h;injection h with h1 h;injection h with h2 h;injection h with h3 h4;subst h1;subst h2;subst h3;subst h4
       cases e<;>first | exact hg | cases hn
     · cases h
theorem gcd {c:Operand} {x y:Code} {b:Bool} (hc:evl s.slots c=.d (.bool b)) (hx:b=true→GF K fr (.code x) Q s) (hy:b=false→GF K fr (.code y) Q s):GF K fr (.code (.cond c x y)) Q s:=G_cond ((evl_eq s c).symm.trans hc) hx hy
theorem toO {l:List Nat} (h:GOps K ops (unf K Q fr) l s):GF K fr (.ops ops l) Q s:=h
theorem ofO {l:List Nat} (h:GF K fr (.ops ops l) Q s):GOps K ops (unf K Q fr) l s:=h
theorem toC (h:G K c (unf K Q fr) s):GF K fr (.code c) Q s:=h
theorem toL {e:Exit} (h:unf K Q fr e s):GF K fr (.leave e) Q s:=h
theorem gRn (n:Nat) {K:Ctx} {fr:List Fr} {c:Code} {Q:Exit→GS→Prop} {s:GS} (h:GF K (.rnd c n :: fr) (.code c) Q s):GF K fr (.code (.loop c)) Q s:=G_rnd (n + 1) h
theorem gLo {α:Type} (St:α→GS) (mu:α→Nat) (I:α→Prop) (x0:α) (h0:I x0) (hs:Le K s (St x0))
 (hr:∀ x,I x→∀ Q':Exit→GS→Prop,(∀ s' x',I x'→mu x' < mu x→Le K s' (St x')→Q' .normal s')→(∀ id s',GF K fr (.leave (.exit id)) Q s'→Q' (.exit id) s')→(∀ s',GF K fr (.leave .ret) Q s'→Q' .ret s')→(∀ ch s',GF K fr (.leave (.panic ch)) Q s'→Q' (.panic ch) s')→GF K [] (.code c) Q' (St x)):GF K fr (.code (.loop c)) Q s:=
 g_loopp St mu I x0 h0 hr hs
def goes:Cf→Bool
 | .leave _=>false
 | _=>true
theorem gLe {c:Cf} {s':GS} (hl:Le K s s') (h:GF K fr c Q s') (hc:goes c=true):GF K fr c Q s:=by
 cases c with
 | code c=>exact G_le hl h
 | ops ops l=>exact GOps_le hl h
 | leave e=>cases hc
theorem pfb {P:Program} {f:FuncId} {fn:Func} {args:List D} {r:PV} {n:Nat} {rvs:List ResultVar} {slots:List (Nat×PV)} (hf:P.funcs[f]? = some fn) (hn:fn.ntmps=n) (hres:fn.results=rvs.toArray)
 (h:∀ S0 O0 w0 m0,m0.length=0→GF ⟨P,n,S0,O0,w0,m0,[],[]⟩ [] (.code c) (Fin P rvs 0 (fun q m=>q=r∧m=[])) ⟨slots,[]⟩)
 (hb:fn.body=some c:=by rfl) (hnm:(fn.name == "runtime.NumGoroutine")=false:=by rfl) (hal:args.length≤n:=by exact oR rfl) (hsl:(List.range (args.map PV.d).length).zip (args.map PV.d)=slots:=by rfl):Pf P f args r:=
 pf_body slots hf hn hres h hb hnm hal hsl
def resD (T:List (Nat×TI)) (sl:List (Nat×PV)) (mem:List (List PV)):ResultVar→Option PV
 | .tmp t=>match lk sl t with
  | .undef=>none
  | p=>match p.toD with
   | some d=>some (.d d)
   | none=>cpy p some
 | .cell t ty=>match lk sl t with
  | .ref b off=>match nth mem b with
   | some cs=>match plainB cs with
    | true=>match look T ty with
     | some i=>match i.leaf with
      | true=>match nth cs off with
       | some p=>match p.toD with
        | some d=>some (.d d)
        | none=>cpy p some
       | none=>none
      | false=>match fits (off + i.size) cs with
       | true=>drp off cs fun r=>takK i.size r fun r=>match PV.toDs r with
        | some ds=>some (.d (.agg ds))
        | none=>copiesK r fun ps=>some (.agg ps)
       | false=>none
     | none=>none
    | false=>none
   | none=>none
  | _=>none
def resDs (T:List (Nat×TI)) (sl:List (Nat×PV)) (mem:List (List PV)):List ResultVar→(List PV→Option PV)→Option PV
 | [],k=>k []
 | rv :: r,k=>match resD T sl mem rv with
  | some p=>resDs T sl mem r fun ps=>k (p :: ps)
  | none=>none
def tupK:List PV→Option PV
 | [p]=>some p
 | ps=>some (.tup ps)
end
section
variable {P:Program} {T:List (Nat×TI)} {sl:List (Nat×PV)} {mem:List (List PV)} {p:PV}
theorem resD_of {rv:ResultVar} (hT:tabB P T=true) (h:resD T sl mem rv=some p):ResV P ⟨sl,mem⟩ rv p:=by
 unfold resD at h
 split at h
 · rename_i t
   split at h
   · cases h
   · rename_i hne
     have hs:(GS.mk sl mem).get t=some (lk sl t):=lk_some rfl hne
     split at h
     · rename_i d hd;injection h with h;subst h;exact .dat hs hd
     · rw [cpy_eq] at h;injection h with h;subst h;exact .tmp hs
 · rename_i t ty
   split at h
   · rename_i b off hl
     have hs:(GS.mk sl mem).get t=some (.ref b off):=lk_some hl (by intro h;cases h)
     split at h
     · rename_i cs hm
       rw [nth_eq] at hm
       split at h
       · rename_i hpl
         split at h
         · rename_i i hi
           have hti:=tabB_look hT hi
           obtain ⟨d,hd,hle,_⟩:=hti.und
           split at h
           · rename_i hlf
             split at h
             · rename_i q hq
               rw [nth_eq] at hq
               split at h
               · rename_i x hx;injection h with h;subst h;exact .leafD hs hm hq hx hpl hd (hle.trans hlf)
               · rw [cpy_eq] at h;injection h with h;subst h;exact .leaf hs hm hq hpl hd (hle.trans hlf)
             · cases h
           · rename_i hlf
             split at h
             · rename_i hf
               rw [drp_eq,takK_eq] at h
               have hq:mkAgg ((cs.drop off).take i.size)=p:=by
                unfold mkAgg
                split at h
                · rename_i ds hds;rw [hds];injection h
                · rename_i hds;rw [hds];rw [copiesK_eq] at h;injection h
               rw [← hq]
               exact .agg hs hm hti.size hd (hle.trans hlf) (fits_of _ _ hf) hpl
             · cases h
         · cases h
       · cases h
     · cases h
   · cases h
theorem resDs_of (hT:tabB P T=true):∀ (rvs:List ResultVar) (k:List PV→Option PV) (q:PV),resDs T sl mem rvs k=some q→∃ ps,ResL P ⟨sl,mem⟩ rvs ps∧k ps=some q
 | [],k,q,h=>⟨[],.nil,h⟩
 | rv :: r,k,q,h=>by
  rw [resDs] at h
  split at h
  · rename_i p hp
    obtain ⟨ps,h1,h2⟩:=resDs_of hT r _ q h
    exact ⟨p :: ps,.cons (resD_of hT hp) h1,h2⟩
  · cases h
variable {q:PV}
theorem tupK_of {ps:List PV} (h:tupK ps=some q):tupOf ps=q:=by
 unfold tupK at h
 split at h
 · injection h
 · rename_i hne
   injection h with h
   rw [← h]
   unfold tupOf
   split
   · exact absurd rfl (hne _)
   · rfl
def endE:Exit→Bool
 | .normal=>true
 | .ret=>true
 | _=>false
variable {e:Exit}
theorem endE_of (h:endE e=true):e=.normal∨e=.ret:=by cases e<;>first | exact .inl rfl | exact .inr rfl | cases h
def endK (T:List (Nat×TI)) (sl:List (Nat×PV)) (mem:List (List PV)) (rvs:List ResultVar) (e:Exit):Option PV:=match endE e with
 | true=>resDs T sl mem rvs tupK
 | false=>none
variable {K:Ctx} {r:PV}
theorem gEnd {rvs:List ResultVar} (hT:tabB P T=true) (h:endK T sl mem rvs e=some q) (hb:PV.refsB 0 q=true) (hr:q=r):
 GF K [] (.leave e) (Fin P rvs 0 (fun q m=>q=r∧m=[])) ⟨sl,mem⟩:=by
 unfold endK at h
 split at h
 · rename_i he
   obtain ⟨ps,h1,h2⟩:=resDs_of hT rvs tupK q h
   have h3:=tupK_of h2
   exact ⟨endE_of he,.inl ⟨ps,[],h1,Nat.le_refl _,.nil,by rw [h3];exact hb,by rw [h3];exact ⟨hr,rfl⟩⟩⟩
 · cases h
variable {n:Nat}
theorem gEndM {rvs:List ResultVar} {mem':List (List PV)} {R:PV→List (List PV)→Prop} (hT:tabB P T=true) (h:endK T sl mem rvs e=some q) (hb:PV.refsB mem'.length q=true) (hn:n≤mem'.length) (hm:MSub mem'.length mem mem') (hr:R q mem'):
 GF K [] (.leave e) (Fin P rvs n R) ⟨sl,mem⟩:=by
 unfold endK at h
 split at h
 · rename_i he
   obtain ⟨ps,h1,h2⟩:=resDs_of hT rvs tupK q h
   have h3:=tupK_of h2
   exact ⟨endE_of he,.inl ⟨ps,mem',h1,hn,hm,by rw [h3];exact hb,by rw [h3];exact hr⟩⟩
 · cases h
variable {t:Nat}
theorem gEndO {k:Nat} {xs:List D} (h:lk sl t=.osl k xs) (he:endE e=true) (hr:PV.osl k xs=r):
 GF K [] (.leave e) (Fin P [.tmp t] 0 (fun q m=>q=r∧m=[])) ⟨sl,mem⟩:=⟨endE_of he,.inr ⟨t,k,xs,[],rfl,lk_some h (by intro h;cases h),Nat.le_refl _,.nil,hr,rfl⟩⟩
def lst:PV→Option (List D)
 | .d (.sl xs)=>some xs
 | .osl _ xs=>some xs
 | .nils=>some []
 | _=>none
theorem lst_eq {xs:List D} (h:lst p=some xs):p.list? = some xs:=by
 unfold lst at h
 split at h<;>first | exact h | cases h
def gdK {α:Type} (ops:List Oper) (n:Nat) (o:Oper) (sl:List (Nat×PV)) (k:Option Bool→Option α):Option α:=match o.guard with
 | none=>k none
 | some (j,w)=>match nth ops j with
  | none=>none
  | some oj=>match oj.dst with
   | none=>none
   | some u=>match Nat.blt u n with
    | false=>none
    | true=>match gdOf (lk sl u) w with
     | none=>none
     | some g=>k (some g)
def stpK {α:Type} (g:Option Bool) (xs:List Operand) (sl:List (Nat×PV)) (k:List (Nat×PV)→List (Bool×Bool)→Option α):Option α:=match g with
 | none=>k sl []
 | some g=>stripK g xs sl [] k
def isT:Option Bool→Prop
 | none=>True
 | some g=>g=true
def whn (g:Option Bool) (p:PV):PV:=match g with
 | none=>p
 | some g=>.when g p
variable {i:Nat} {o:Oper}
theorem quiet_of {α:Type} {ops:Array Oper} {k:Option Bool→Option α} {r:α} (ho:nth ops.toList i=some o) (hd:o.dst=some t) (ht:t < K.n) (h:gdK ops.toList K.n o sl k=some r):
 ∃ g,k g=some r∧∀ (p:PV) (Q:Exit→GS→Prop) (rest:List Nat),(isT g→Yld K o ⟨sl,mem⟩ ⟨(t,p) :: sl,mem⟩)→GOps K ops Q rest ⟨(t,whn g p) :: sl,mem⟩→GOps K ops Q (i :: rest) ⟨sl,mem⟩:=by
 have hoi:ops[i]? = some o:=by rw [nth_eq] at ho;rw [← ho];simp
 unfold gdK at h
 split at h
 · rename_i hg
   exact ⟨none,h,fun p Q rest hy hgo=>GOps_val hoi hg (hy trivial) hgo⟩
 · rename_i j w hg
   split at h
   · cases h
   · rename_i oj hnj
     have hoj:ops[j]? = some oj:=by rw [nth_eq] at hnj;rw [← hnj];simp
     split at h
     · cases h
     · rename_i u hju
       split at h
       · cases h
       · rename_i hlt
         split at h
         · cases h
         · rename_i g hgb
           have hgb:=gdOf_eq _ _ _ hgb
           have hu:(GS.mk sl mem).get u=some (lk sl u):=lk_some rfl (by intro h0;rw [h0] at hgb;cases hgb)
           exact ⟨some g,h,fun p Q rest hy hgo=>GOps_guard hoi hg hoj hju hu hgb (blt_of hlt) hd ht (fun hb=>hy hb) hgo⟩
theorem stpK_of {α:Type} {g:Option Bool} {xs:List Operand} {k:List (Nat×PV)→List (Bool×Bool)→Option α} {r:α} (mem:List (List PV)) (h:stpK g xs sl k=some r):
 ∃ sl' ob,k sl' ob=some r∧(isT g→(∀ x ∈ ob,x.1=true→x.2=true)→∀ (K:Ctx) (o:Oper) (t:Nat) (q:PV),Qy K o ⟨sl',mem⟩ t q→Qy K o ⟨sl,mem⟩ t q):=by
 cases g with
 | none=>exact ⟨sl,[],h,fun _ _ _ _ _ _ h=>h⟩
 | some g=>
  obtain ⟨sl',ob,h1,h2⟩:=stripK_of g mem xs sl [] k
  exact ⟨sl',ob,by rw [← h1];exact h,fun hg hob K o t q hq=>(h2 hg hob).2 K o t q hq⟩
def dstK {α:Type} (n:Nat) (o:Oper) (k:Nat→Option α):Option α:=match o.dst with
 | none=>none
 | some t=>match Nat.blt t n with
  | true=>k t
  | false=>none
theorem dstK_of {α:Type} {k:Nat→Option α} {r:α} (h:dstK n o k=some r):∃ t,o.dst=some t∧t < n∧k t=some r:=by
 unfold dstK at h
 split at h
 · cases h
 · rename_i t hd
   split at h
   · rename_i hb;exact ⟨t,hd,blt_of hb,h⟩
   · cases h
def opK {α:Type} (ops:List Oper) (i:Nat) (k:Oper→Option α):Option α:=match nth ops i with
 | some o=>k o
 | none=>none
theorem opK_of {α:Type} {ops:List Oper} {k:Oper→Option α} {r:α} (h:opK ops i k=some r):∃ o,nth ops i=some o∧k o=some r:=by
 unfold opK at h
 split at h
 · rename_i o ho;exact ⟨o,ho,h⟩
 · cases h
def ixs (T:List (Nat×TI)) (ops:List Oper) (n i:Nat) (sl:List (Nat×PV)):Option (Nat×Option Bool×List (Bool×Bool)×List D×Int×Nat):=opK ops i fun o=>dstK n o fun t=>gdK ops n o sl fun g=>match o.op with
 | .indexAddr ty x ix=>stpK g [x,ix] sl fun sl' ob=>match look T ty with
  | none=>none
  | some ti=>match ti.kind with
   | .slice _ m _ _=>match lst (evl sl' x) with
    | some xs=>match evl sl' ix with
     | .d (.int _ j)=>some (t,g,ob,xs,j,m)
     | _=>none
    | none=>none
   | _=>none
 | _=>none
theorem slice_of {ty:TypeId} {i:TI} (hi:TOk P ty i) {e n b:Nat} {zs:List ZK} (hk:i.kind=.slice e n b zs):P.underlying ty=some (.slice e)∧∃ z,(P.info? e).map (fun i=>(i.zero,i.size,i.bytes))=some (some z,n,b)∧z.cells.all (·.oneCell')=true∧z.cells.size=zs.length:=by
 obtain ⟨d,hd,_,hd2⟩:=hi.und
 rw [hk] at hd2
 cases d with
 | slice e'=>
  rw [kndB,Bool.and_eq_true] at hd2
  rw [← Nat.eq_of_beq_eq_true hd2.1]
  rw [← Nat.eq_of_beq_eq_true hd2.1] at hd2
  exact ⟨hd,infB_of hd2.2⟩
 | _=>cases hd2
theorem size_of_inf {e b:Nat} {z:Value} (h:(P.info? e).map (fun i=>(i.zero,i.size,i.bytes))=some (some z,n,b)):(P.info? e).map (·.size)=some n:=by
 cases hi:P.info? e with
 | none=>rw [hi] at h;cases h
 | some i=>rw [hi] at h;injection h with h;injection h with _ h;injection h with h _;rw [Option.map_some,h]
theorem gI {fr:List Fr} {ops:Array Oper} {Q:Exit→GS→Prop} {m:Nat} {l:List Nat} {g:Option Bool} {ob:List (Bool×Bool)} {xs:List D} {j:Int} (d:D) (hT:tabB K.P T=true)
 (h:ixs T ops.toList K.n i sl=some (t,g,ob,xs,j,m)) (hd:isT g→0≤j∧xs[j.toNat]? = some d∧d.cells.length=m) (hm:0 < m) (ho:Obl ob) (hg:GF K fr (.ops ops l) Q ⟨(t,whn g (.d (.ptr d))) :: sl,mem⟩):GF K fr (.ops ops (i :: l)) Q ⟨sl,mem⟩:=by
 obtain ⟨o,ho1,h⟩:=opK_of h
 obtain ⟨t',hdt,ht,h⟩:=dstK_of h
 obtain ⟨g',h,hq⟩:=quiet_of (mem:=mem) ho1 hdt ht h
 split at h
 · rename_i ty x ix hop
   obtain ⟨sl',ob',h,hst⟩:=stpK_of mem h
   split at h
   · cases h
   · rename_i ti hl
     split at h
     · rename_i e n b zs hk
       obtain ⟨hu,z,hz,_⟩:=slice_of (tabB_look hT hl) hk
       split at h
       · rename_i ys hys
         split at h
         · rename_i kk jj hj
           injection h with h;injection h with e1 h;injection h with e2 h;injection h with e3 h;injection h with e4 h;injection h with e5 e6
           subst e1;subst e2;subst e3;subst e4;subst e5;subst e6
           refine hq _ _ _ (fun hgt=>?_) hg
           obtain ⟨h0,h1,h2⟩:=hd hgt
           obtain ⟨dd,op,rt,pos,af,gg⟩:=o
           dsimp only at hdt hop
           subst hdt;subst hop
           rw [evl_eq' sl' mem] at hj
           rw [evl_eq' sl' mem] at hys
           exact Yld_pure rfl ht (hst hgt ho.get _ _ _ _ (Q_indexAddr (lst_eq hys) hj h0 h1 hu (size_of_inf hz) h2 hm ht))
         · cases h
       · cases h
     · cases h
 · cases h
theorem str_of {ty:TypeId} {i:TI} (hi:TOk P ty i) (hk:i.kind=.str):P.underlying ty=some .string:=by
 obtain ⟨d,hd,_,hd2⟩:=hi.und
 rw [hk] at hd2
 cases d<;>first | exact hd | cases hd2
def toDsK {β:Sort _}:List PV→(List D→Option β)→Option β
 | [],k=>k []
 | p :: r,k=>match p.toD with
  | some d=>toDsK r fun ds=>k (d :: ds)
  | none=>none
theorem toDsK_of {β:Sort _}:∀ {ps:List PV} {k:List D→Option β} {r:β},toDsK ps k=some r→∃ ds,PV.toDs ps=some ds∧k ds=some r
 | [],k,r,h=>⟨[],rfl,h⟩
 | p :: ps,k,r,h=>by
  rw [toDsK] at h
  split at h
  · rename_i d hd
    obtain ⟨ds,h1,h2⟩:=toDsK_of h
    exact ⟨d :: ds,by rw [PV.toDs,hd,h1],h2⟩
  · cases h
def calK {β:Sort _} (p:PV) (k:FuncId→List D→List D→Option β):Option β:=match p with
 | .fn (.func f) a c=>match a with
  | []=>match c with
   | []=>k f [] []
   | c=>toDsK c fun c=>k f [] c
  | a=>toDsK a fun a=>toDsK c fun c=>k f a c
 | .d (.fn (.func f) a c)=>k f a c
 | _=>none
theorem calK_of {β:Sort _} {k:FuncId→List D→List D→Option β} {r:β} (h:calK p k=some r):∃ f a c,p.callee=some (f,a,c)∧k f a c=some r:=by
 unfold calK at h
 split at h
 · rename_i f a c
   split at h
   · split at h
     · exact ⟨f,[],[],rfl,h⟩
     · obtain ⟨ds,h1,h2⟩:=toDsK_of h
       exact ⟨f,[],ds,by rw [PV.callee,h1];rfl,h2⟩
   · obtain ⟨ds,h1,h2⟩:=toDsK_of h
     obtain ⟨ds',h3,h4⟩:=toDsK_of h2
     exact ⟨f,ds,ds',by rw [PV.callee,h1,h3],h4⟩
 · rename_i f a c;exact ⟨f,a,c,rfl,h⟩
 · cases h
def cls (ops:List Oper) (n i:Nat) (sl:List (Nat×PV)):Option (Nat×Option Bool×List (Bool×Bool)×FuncId×List D):=opK ops i fun o=>dstK n o fun t=>gdK ops n o sl fun g=>match o.op with
 | .call c=>match c.callee with
  | .value fx=>stpK g c.args.toList sl fun sl' ob=>evsK sl' c.args.toList fun ps=>calK (evl sl fx) fun f a b=>toDsK ps fun ds=>appK a ds fun ad=>appK ad b fun all=>some (t,g,ob,f,all)
  | _=>none
 | _=>none
theorem call_at {s:GS} {fx:Operand} {ar:Array Operand} {tys:Array TypeId} {f:FuncId} {fa fc ds:List D} (hop:o.op=.call ⟨.value fx,ar,tys⟩) (hd:o.dst=some t) (ht:t < K.n)
 (hfx:(s.ev fx).callee=some (f,fa,fc)) {s':GS} (hxs:PV.toDs (ar.toList.map s'.ev)=some ds) (hc:Pf K.P f (fa++ds++fc) r) {S:Reg} {O:Owns} {m:List Nat} {a:Act} {w:World} (hr:Rep K S O m s a w) (hr':Rep K S O m s' a w) {next:Act→World→Prop} {Q:Exit→GS→Prop} (h:∀ a' w',At K (s.set t r) a' w'→next a' w'):
 o.wp K.P a w next (fun e a' w'=>∃ s',Q e s'∧At K s' a' w'):=by
 obtain ⟨⟨fn,hf,hb,hn⟩,hp⟩:=hc
 obtain ⟨hl,hrd⟩:=evs_rd hr' ar.toList hxs
 exact call_wp (xs:=ar.toList) hr (by simpa using hop) hd hfx hl hrd hf hb hn ht hp h
end
section
theorem Rep.bare {K:Ctx} {S:Reg} {O:Owns} {m:List Nat} {sl:List (Nat×PV)} {mem:List (List PV)} {a:Act} {w:World} {u:Nat} {c:Bool} {p:PV} (h:Rep K S O m ⟨sl,mem⟩ a w) (hl:lk sl u=.when c p) (hc:c=true):Rep K S O m ⟨(u,p) :: sl,mem⟩ a w where
 env:=h.env
 defers:=h.defers
 size:=h.size
 pre:=h.pre
 slots:=fun i q hq=>by
  rw [GS.get,List.lookup_cons] at hq
  cases hb:(i == u) with
  | true=>
   rw [hb] at hq;injection hq with hq;subst hq
   have hi:i=u:=by simpa using hb
   subst hi
   have hr:=h.slots i _ (lk_some hl (by intro h;cases h))
   generalize a.tmps.getD i undef=v at hr
   subst hc
   cases hr with
   | whenT _ _ _ _ _ hr=>exact hr
   | whenF _ _ _ hb=>cases hb
  | false=>rw [hb] at hq;exact h.slots i q hq
theorem stripR {β:Sort _} (g:Bool) (mem:List (List PV)):∀ (xs:List Operand) (sl:List (Nat×PV)) (ob:List (Bool×Bool)) (k:List (Nat×PV)→List (Bool×Bool)→β),
 ∃ sl' ob',stripK g xs sl ob k=k sl' ob'∧(g=true→(∀ x ∈ ob',x.1=true→x.2=true)→(∀ x ∈ ob,x.1=true→x.2=true)∧∀ (K:Ctx) S O m a w,Rep K S O m ⟨sl,mem⟩ a w→Rep K S O m ⟨sl',mem⟩ a w)
 | [],sl,ob,k=>⟨sl,ob,rfl,fun _ h=>⟨h,fun _ _ _ _ _ _ h=>h⟩⟩
 | x :: r,sl,ob,k=>by
  unfold stripK
  split
  · rename_i u
    split
    · rename_i c p hl
      obtain ⟨sl',ob',h1,h2⟩:=stripR g mem r ((u,p) :: sl) ((g,c) :: ob) k
      refine ⟨sl',ob',h1,fun hgt h=>?_⟩
      obtain ⟨h3,h4⟩:=h2 hgt h
      exact ⟨fun x hx=>h3 x (.tail _ hx),fun K S O m a w hr=>h4 K S O m a w (hr.bare hl (h3 _ (.head _) hgt))⟩
    · exact stripR g mem r sl ob k
  · exact stripR g mem r sl ob k
theorem gC {K:Ctx} {fr:List Fr} {ops:Array Oper} {Q:Exit→GS→Prop} {i t:Nat} {l:List Nat} {sl:List (Nat×PV)} {mem:List (List PV)} {g:Option Bool} {ob:List (Bool×Bool)} {f:FuncId} {ds:List D} {r:PV}
 (h:cls ops.toList K.n i sl=some (t,g,ob,f,ds)) (hc:isT g→Pf K.P f ds r) (ho:Obl ob) (hg:GF K fr (.ops ops l) Q ⟨(t,whn g r) :: sl,mem⟩):GF K fr (.ops ops (i :: l)) Q ⟨sl,mem⟩:=by
 refine toO ?_
 have hg:=ofO hg
 obtain ⟨o,ho1,h⟩:=opK_of h
 obtain ⟨t',hdt,ht,h⟩:=dstK_of h
 have hoi:ops[i]? = some o:=by rw [nth_eq] at ho1;rw [← ho1];simp
 unfold gdK at h
 split at h
 · rename_i hgd
   split at h
   · rename_i c hop
     split at h
     · rename_i fx hcal
       unfold stpK at h
       dsimp only at h
       rw [evsK_eq] at h
       obtain ⟨f',a,b,h1,h⟩:=calK_of h
       obtain ⟨ds',h2,h⟩:=toDsK_of h
       rw [appK_eq,appK_eq] at h
       injection h with h;injection h with e1 h;injection h with e2 h;injection h with e3 h;injection h with e4 e5
       subst e1;subst e2;subst e3;subst e4;subst e5
       obtain ⟨ca,ar,tys⟩:=c
       dsimp only at hcal h2
       subst hcal
       obtain ⟨⟨fn,hf,hb,hn⟩,hp⟩:=hc trivial
       rw [evl_eq' sl mem] at h1
       refine GOps_call (xs:=ar.toList) (R:=fun q m=>q=r∧m=[]) hoi (by simpa using hop) hdt hgd h1 ?_ hf hb hn ht hp (fun r' m' hr=>?_)
       · rw [← h2];congr 1;exact List.map_congr_left fun x _=>(evl_eq' sl mem x).symm
       · obtain ⟨rfl,rfl⟩:=hr;exact ⟨rfl,hg⟩
     · cases h
   · cases h
 · rename_i j want hgd
   split at h
   · cases h
   · rename_i oj hnj
     have hoj:ops[j]? = some oj:=by rw [nth_eq] at hnj;rw [← hnj];simp
     split at h
     · cases h
     · rename_i u hju
       split at h
       · cases h
       · rename_i hlt
         split at h
         · cases h
         · rename_i gb hgb
           have hgb:=gdOf_eq _ _ _ hgb
           have hu:(GS.mk sl mem).get u=some (lk sl u):=lk_some rfl (by intro h0;rw [h0] at hgb;cases hgb)
           split at h
           · rename_i c hop
             split at h
             · rename_i fx hcal
               unfold stpK at h
               dsimp only at h
               obtain ⟨sl',ob',h0,hst⟩:=stripR gb mem c.args.toList sl [] (fun sl' ob=>evsK sl' c.args.toList fun ps=>calK (evl sl fx) fun f a b=>toDsK ps fun ds=>appK a ds fun ad=>appK ad b fun all=>some (t',some gb,ob,f,all))
               rw [h0,evsK_eq] at h
               obtain ⟨f',a,b,h1,h⟩:=calK_of h
               obtain ⟨ds',h2,h⟩:=toDsK_of h
               rw [appK_eq,appK_eq] at h
               injection h with h;injection h with e1 h;injection h with e2 h;injection h with e3 h;injection h with e4 e5
               subst e1;subst e2;subst e3;subst e4;subst e5
               obtain ⟨ca,ar,tys⟩:=c
               dsimp only at hcal h2
               subst hcal
               rintro a1 w ⟨S,O,m,hr⟩
               have hyl:=wanted_of hr hoj hju hu (blt_of hlt) hgb
               by_cases hb:gb=true
               · have hw:Region.wanted o (yielded ops a1.tmps)=true:=by simp only [Region.wanted];rw [hgd];dsimp only;rw [hyl];exact hb
                 simp only [wpOps,hoi,hw,if_true]
                 have hr':=(hst hb ho.get).2 K S O m a1 w hr
                 rw [evl_eq' sl mem] at h1
                 refine .inl (call_at (s':=⟨sl',mem⟩) hop hdt ht h1 ?_ (hc hb) hr hr' (fun a' w' ⟨S',O',m',hr'⟩=>hg a' w' ⟨S',O',m',hr'.env,hr'.defers,hr'.size,hr'.pre,fun i q hq=>?_⟩))
                 · rw [← h2];congr 1;exact List.map_congr_left fun x _=>(evl_eq' sl' mem x).symm
                 · rw [GS.get,List.lookup_cons] at hq
                   cases hit:(i == t') with
                   | true=>
                    rw [hit] at hq;injection hq with hq;subst hq
                    have hi:i=t':=by simpa using hit
                    subst hi
                    exact .whenT _ _ _ _ hb (hr'.slots i r (by rw [GS.get_set,if_pos rfl]))
                   | false=>
                    rw [hit] at hq
                    exact hr'.slots i q (by rw [GS.get_set,if_neg (by simpa using hit)];exact hq)
               · have hw:Region.wanted o (yielded ops a1.tmps)=false:=by simp only [Region.wanted];rw [hgd];dsimp only;rw [hyl];simpa using hb
                 simp only [wpOps,hoi,hw,if_false,Bool.false_eq_true]
                 rw [hdt]
                 refine hg _ _ ⟨S,O,m,hr.put ht ?_⟩
                 exact .whenF _ _ _ (by simpa using hb)
             · cases h
           · cases h
end
end Go.Proofs.YtoonleefemkalaaDoor.E
