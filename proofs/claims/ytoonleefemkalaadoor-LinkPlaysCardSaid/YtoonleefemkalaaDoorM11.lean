import Derived.Test.YtoonleefemkalaaDoorM10
import Derived.StringKeys
import Derived.DeepKeys4
/- Contracts of functions. Conditions: none. -/
set_option linter.unusedSimpArgs false
set_option linter.unusedVariables false
namespace Go.Proofs.YtoonleefemkalaaDoor.E
open Go
section
variable {K:Ctx} {sl:List (Nat×PV)} {mem:List (List PV)} {t:Nat}
theorem Qy_low {o:Oper} {u:Nat} {q:PV} {xs:List D} (hl:lst (lk sl u)=some xs) (hq:Qy K o ⟨(u,.d (.sl xs)) :: sl,mem⟩ t q):Qy K o ⟨sl,mem⟩ t q:=by
 refine fun S O m a w h=>hq S O m a w ⟨h.env,h.defers,h.size,h.pre,fun i p hp=>?_⟩
 rw [GS.get,List.lookup_cons] at hp
 cases hb:(i == u) with
 | true=>
  rw [hb] at hp;injection hp with hp;subst hp
  have hi:i=u:=by simpa using hb
  subst hi
  have hne:lk sl i ≠ .undef:=by intro h0;rw [h0] at hl;cases hl
  have hr:=h.slots i _ (lk_some rfl hne)
  have hd:(lk sl i).toD=some (.sl xs):=by
   unfold lst at hl
   split at hl<;>first | (rename_i h0;rw [h0];injection hl with hl;subst hl;rfl) | cases hl
  exact .d _ _ _ (hr.toD _ hd)
 | false=>rw [hb] at hp;exact h.slots i p hp
def lowK {β:Sort _} (sl:List (Nat×PV)) (x:Operand) (k:List (Nat×PV)→Option β):Option β:=match x with
 | .tmp u=>match lst (lk sl u) with
  | some xs=>k ((u,.d (.sl xs)) :: sl)
  | none=>k sl
 | _=>k sl
variable {β:Sort _}
theorem lowK_of (mem:List (List PV)) {x:Operand} {k:List (Nat×PV)→Option β} {r:β} (h:lowK sl x k=some r):∃ sl',k sl'=some r∧∀ (K:Ctx) (o:Oper) (t:Nat) (q:PV),Qy K o ⟨sl',mem⟩ t q→Qy K o ⟨sl,mem⟩ t q:=by
 unfold lowK at h
 split at h
 · split at h
   · rename_i hl;exact ⟨_,h,fun K o t q hq=>Qy_low hl hq⟩
   · exact ⟨_,h,fun _ _ _ _ h=>h⟩
 · exact ⟨_,h,fun _ _ _ _ h=>h⟩
def qc (T:List (Nat×TI)) (sl:List (Nat×PV)) (op:Op):Option (Prop×PV):=match op with
 | .index ty x ix=>match look T ty with
  | none=>none
  | some ti=>match ti.kind with
   | .str=>match evl sl x with
    | .d (.str b)=>match evl sl ix with
     | .d (.int _ j)=>some (0≤j∧j < b.size,.d (.int .u8 (b[j.toNat]!).toNat))
     | _=>none
    | _=>none
   | _=>none
 | .binOp op _ x y _=>match evl sl x with
  | .d (.str a)=>match evl sl y with
   | .d (.str b)=>match op with
    | .add=>some (a.size + b.size≤lim,.d (.str (a++b)))
    | _=>none
   | _=>none
  | .d (.int k a)=>match evl sl y with
   | .d (.int k' b)=>match decide (k=k') with
    | true=>match op with
     | .quo=>some (b ≠ 0,.d (.int k (k.wrap (a.tdiv b))))
     | .rem=>some (b ≠ 0,.d (.int k (a.tmod b)))
     | _=>none
    | false=>none
   | _=>none
  | _=>none
 | .slice ty x lo hi mx=>match mx with
  | some _=>none
  | none=>match look T ty with
   | none=>none
   | some ti=>match ti.kind with
    | .str=>match evl sl x with
     | .d (.str b)=>match lo with
      | none=>match hi with
       | none=>none
       | some hi=>match evl sl hi with
        | .d (.int _ j)=>some (0≤j∧j≤b.size,.d (.str (b.extract 0 j.toNat)))
        | _=>none
      | some lo=>match evl sl lo with
       | .d (.int _ i)=>match hi with
        | none=>some (0≤i∧i≤b.size,.d (.str (b.extract i.toNat b.size)))
        | some _=>none
       | _=>none
     | _=>none
    | .slice _ n _ _=>match evl sl x with
     | .d (.sl xs)=>match lo with
      | none=>match hi with
       | none=>none
       | some hi=>match evl sl hi with
        | .d (.int _ j)=>some ((0≤j∧j≤(xs.length:Nat))∧∀ x ∈ xs,x.cells.length=n,.d (.sl (xs.take j.toNat)))
        | _=>none
      | some lo=>match evl sl lo with
       | .d (.int _ i)=>match hi with
        | none=>some ((0≤i∧i≤(xs.length:Nat))∧∀ x ∈ xs,x.cells.length=n,.d (.sl (xs.drop i.toNat)))
        | some hi=>match evl sl hi with
         | .d (.int _ j)=>some ((0≤i∧i≤j∧j≤(xs.length:Nat))∧∀ x ∈ xs,x.cells.length=n,.d (.sl ((xs.take j.toNat).drop i.toNat)))
         | _=>none
       | _=>none
     | _=>none
    | _=>none
 | _=>none
theorem qc_of {T:List (Nat×TI)} {op:Op} {C:Prop} {p:PV} {rt:TypeId} {pos:String} {af:Array Edge} {g:Option (Nat×Bool)} (hT:tabB K.P T=true) (ht:t < K.n) (h:qc T sl op=some (C,p)) (hc:C):Qy K ⟨some t,op,rt,pos,af,g⟩ ⟨sl,mem⟩ t p:=by
 unfold qc at h
 split at h
 · split at h
   · cases h
   · rename_i ti hl
     split at h
     · rename_i hk
       split at h
       · rename_i b hb
         split at h
         · rename_i kk j hj
           injection h with h;injection h with h1 h2;subst h1;subst h2
           rw [evl_eq' sl mem] at hb hj
           exact Q_strindex hb hj (str_of (tabB_look hT hl) hk) hc.1 hc.2
         · cases h
       · cases h
     · cases h
 · split at h
   · rename_i a ha
     split at h
     · rename_i b hb
       split at h
       · injection h with h;injection h with h1 h2;subst h1;subst h2
         rw [evl_eq' sl mem] at ha hb
         exact Q_stradd ha hb hc ht
       · cases h
     · cases h
   · rename_i k a ha
     split at h
     · rename_i k' b hb
       split at h
       · rename_i hk
         rw [decide_eq_true_eq] at hk
         subst hk
         rw [evl_eq' sl mem] at ha hb
         split at h
         · injection h with h;injection h with h1 h2;subst h1;subst h2;exact Q_quo ha hb hc rfl ht
         · injection h with h;injection h with h1 h2;subst h1;subst h2;exact Q_rem ha hb hc rfl ht
         · cases h
       · cases h
     · cases h
   · cases h
 · split at h
   · cases h
   · split at h
     · cases h
     · rename_i ti hl
       split at h
       · rename_i hk
         have hu:=str_of (tabB_look hT hl) hk
         split at h
         · rename_i b hb
           rw [evl_eq' sl mem] at hb
           split at h
           · split at h
             · cases h
             · split at h
               · rename_i kk j hj
                 injection h with h;injection h with h1 h2;subst h1;subst h2
                 rw [evl_eq' sl mem] at hj
                 exact Q_strh hb hj hu hc.1 hc.2 rfl
               · cases h
           · split at h
             · rename_i kk j hj
               rw [evl_eq' sl mem] at hj
               split at h
               · injection h with h;injection h with h1 h2;subst h1;subst h2
                 exact Q_strl hb hj hu hc.1 hc.2 rfl
               · cases h
             · cases h
         · cases h
       · rename_i e n bb zs hk
         obtain ⟨hu,z,hz,_⟩:=slice_of (tabB_look hT hl) hk
         have hsz:=size_of_inf hz
         split at h
         · rename_i xs hb
           rw [evl_eq' sl mem] at hb
           split at h
           · split at h
             · cases h
             · split at h
               · rename_i kk j hj
                 injection h with h;injection h with h1 h2;subst h1;subst h2
                 rw [evl_eq' sl mem] at hj
                 exact Q_sliceh hb hj hu hsz hc.1.1 hc.1.2 hc.2 rfl
               · cases h
           · split at h
             · rename_i kk i hi
               rw [evl_eq' sl mem] at hi
               split at h
               · injection h with h;injection h with h1 h2;subst h1;subst h2
                 exact Q_slicel hb hi hu hsz hc.1.1 hc.1.2 hc.2 rfl
               · split at h
                 · rename_i kk' j hj
                   injection h with h;injection h with h1 h2;subst h1;subst h2
                   rw [evl_eq' sl mem] at hj
                   exact Q_slicelh hb hi hj hu hsz hc.1.1 hc.1.2.1 hc.1.2.2 hc.2 rfl
                 · cases h
             · cases h
         · cases h
       · cases h
 · cases h
def low1 (op:Op):Operand:=match op with
 | .slice _ x _ _ _=>x
 | _=>.func 0
def qcs (T:List (Nat×TI)) (ops:List Oper) (n i:Nat) (sl:List (Nat×PV)):Option (Nat×Option Bool×List (Bool×Bool)×Prop×PV):=opK ops i fun o=>dstK n o fun t=>gdK ops n o sl fun g=>stpK g o.op.operands.toList sl fun sl' ob=>lowK sl' (low1 o.op) fun sl'=>match qc T sl' o.op with
 | some (C,p)=>some (t,g,ob,C,p)
 | none=>none
variable {fr:List Fr} {ops:Array Oper} {i:Nat} {l:List Nat}
theorem gQ {T:List (Nat×TI)} {Q:Exit→GS→Prop} {g:Option Bool} {ob:List (Bool×Bool)} {C:Prop} {p:PV} (hT:tabB K.P T=true)
 (h:qcs T ops.toList K.n i sl=some (t,g,ob,C,p)) (hc:isT g→C) (ho:Obl ob) (hg:GF K fr (.ops ops l) Q ⟨(t,whn g p) :: sl,mem⟩):GF K fr (.ops ops (i :: l)) Q ⟨sl,mem⟩:=by
 obtain ⟨o,ho1,h⟩:=opK_of h
 obtain ⟨t',hdt,ht,h⟩:=dstK_of h
 obtain ⟨g',h,hq⟩:=quiet_of (mem:=mem) ho1 hdt ht h
 obtain ⟨sl',ob',h,hst⟩:=stpK_of mem h
 obtain ⟨sl2,h,hst2⟩:=lowK_of mem h
 split at h
 · rename_i C' p' hqc
   injection h with h;injection h with e1 h;injection h with e2 h;injection h with e3 h;injection h with e4 e5
   subst e1;subst e2;subst e3;subst e4;subst e5
   refine hq _ _ _ (fun hgt=>?_) hg
   obtain ⟨dd,op,rt,pos,af,gg⟩:=o
   dsimp only at hdt hqc
   subst hdt
   exact Yld_pure rfl ht (hst hgt ho.get _ _ _ _ (hst2 _ _ _ _ (qc_of hT ht hqc (hc hgt))))
 · cases h
def aps (T:List (Nat×TI)) (ops:List Oper) (n i:Nat) (sl:List (Nat×PV)):Option (Nat×Nat×Nat×Nat×List D×List D):=opK ops i fun o=>dstK n o fun t=>match o.guard with
 | some _=>none
 | none=>match o.op with
  | .call c=>match c.callee with
   | .builtin .append=>match c.args.toList with
    | [.tmp u,y]=>match c.argTypes.toList with
     | [ty,ty']=>match Nat.beq ty ty' with
      | true=>match look T ty with
       | none=>none
       | some ti=>match ti.kind with
        | .slice _ k b zs=>match sizeIs zs k with
         | true=>match lst (evl sl y) with
          | some ys=>match lk sl u with
           | .osl k' xs=>match Nat.beq k k' with
            | true=>some (t,u,k,b,xs,ys)
            | false=>none
           | .nils=>some (t,u,k,b,[],ys)
           | _=>none
          | none=>none
         | false=>none
        | _=>none
      | false=>none
     | _=>none
    | _=>none
   | _=>none
  | _=>none
theorem gA {T:List (Nat×TI)} {Q:Exit→GS→Prop} {u k b:Nat} {xs ys:List D} (hT:tabB K.P T=true)
 (h:aps T ops.toList K.n i sl=some (t,u,k,b,xs,ys)) (hk0:0 < k) (hne:ys ≠ []) (hk:∀ y ∈ ys,y.cells.length=k) (hl:xs.length + ys.length≤lim) (hB:(xs.length + ys.length) * b≤lim) (hg:GF K fr (.ops ops l) Q ⟨(t,.osl k (xs++ys)) :: (u,.d (.sl xs)) :: sl,mem⟩):GF K fr (.ops ops (i :: l)) Q ⟨sl,mem⟩:=by
 obtain ⟨o,ho1,h1⟩:=opK_of h
 obtain ⟨t',hdt,ht,h2⟩:=dstK_of h1
 clear h h1
 have h:=h2
 clear h2
 have hoi:ops[i]? = some o:=by rw [nth_eq] at ho1;rw [← ho1];simp
 split at h
 · cases h
 · rename_i hgd
   split at h
   · rename_i c hop
     split at h
     · rename_i hcal
       split at h
       · rename_i u' y hargs
         split at h
         · rename_i ty ty' htys
           split at h
           · rename_i hty
             have hty:=Nat.eq_of_beq_eq_true hty
             subst hty
             split at h
             · cases h
             · rename_i ti hlk
               split at h
               · rename_i e k1 b1 zs hkd
                 obtain ⟨hu,z,hz,hz1,hzs⟩:=slice_of (tabB_look hT hlk) hkd
                 split at h
                 · rename_i hsz
                   have hsz:=sizeIs_of _ _ hsz
                   split at h
                   · rename_i ys' hys
                     obtain ⟨ca,ar,tys⟩:=c
                     dsimp only at hcal hargs htys
                     subst hcal
                     have e1:ar=#[.tmp u',y]:=by apply Array.toList_inj.1;exact hargs
                     have e2:tys=#[ty,ty]:=by apply Array.toList_inj.1;exact htys
                     subst e1;subst e2
                     rw [evl_eq' sl mem] at hys
                     obtain ⟨dd,op,rt,pos,af,gg⟩:=o
                     dsimp only at hdt hop hgd
                     subst hdt;subst hop
                     split at h
                     · rename_i k2 xs2 hlku
                       split at h
                       · rename_i hkk
                         have hkk:=Nat.eq_of_beq_eq_true hkk
                         subst hkk
                         injection h with h;injection h with f1 h;injection h with f2 h;injection h with f3 h;injection h with f4 h;injection h with f5 f6
                         subst f1;subst f2;subst f3;subst f4;subst f5;subst f6
                         exact GOps_val hoi hgd (Y_append (lk_some hlku (by intro h;cases h)) (.inl rfl) (lst_eq hys) hne hk hk0 hu hz (hzs.trans hsz) hz1 hl hB ht) hg
                       · cases h
                     · rename_i hlku
                       injection h with h;injection h with f1 h;injection h with f2 h;injection h with f3 h;injection h with f4 h;injection h with f5 f6
                       subst f1;subst f2;subst f3;subst f4;subst f5;subst f6
                       exact GOps_val hoi hgd (Y_append (xs:=[]) (lk_some hlku (by intro h;cases h)) (.inr ⟨rfl,rfl⟩) (lst_eq hys) hne hk hk0 hu hz (hzs.trans hsz) hz1 hl hB ht) hg
                     · cases h
                   · cases h
                 · cases h
               · cases h
           · cases h
         · cases h
       · cases h
     · cases h
   · cases h
def seqK {β:Sort _}:List (Nat×Operand)→List Nat→(List Operand→Option β)→Option β
 | [],_,k=>k []
 | (i,x) :: r,n :: ns,k=>match Nat.beq i n with
  | true=>seqK r ns fun xs=>k (x :: xs)
  | false=>none
 | _ :: _,[],_=>none
theorem seqK_of:∀ {ps:List (Nat×Operand)} {ns:List Nat} {k:List Operand→Option β} {r:β},seqK ps ns k=some r→∃ xs,k xs=some r∧ps=(ns.take xs.length).zip xs∧xs.length≤ns.length
 | [],ns,k,r,h=>⟨[],h,by simp,Nat.zero_le _⟩
 | (i,x) :: ps,n :: ns,k,r,h=>by
  rw [seqK] at h
  split at h
  · rename_i hb
    obtain ⟨xs,h1,h2,h3⟩:=seqK_of h
    refine ⟨x :: xs,h1,?_,by simp only [List.length_cons];omega⟩
    rw [h2,Nat.eq_of_beq_eq_true hb];rfl
  · cases h
 | _ :: _,[],_,_,h=>by cases h
def bss (T:List (Nat×TI)) (ops:List Oper) (n i:Nat) (sl:List (Nat×PV)):Option (Nat×Nat×List D):=opK ops i fun o=>dstK n o fun t=>match o.guard with
 | some _=>none
 | none=>match o.op with
  | .buildSlice ty len parts=>seqK parts.toList nums fun xs=>match sizeIs xs len with
   | true=>match look T ty with
    | none=>none
    | some ti=>match ti.kind with
     | .slice _ k _ zs=>match sizeIs zs k with
      | true=>match Nat.ble (len * k) 16777216 with
       | true=>evsK sl xs fun ps=>toDsK ps fun ds=>some (t,k,ds)
       | false=>none
      | false=>none
     | _=>none
   | false=>none
  | _=>none
theorem gB {T:List (Nat×TI)} {Q:Exit→GS→Prop} {k:Nat} {ds:List D} (hT:tabB K.P T=true)
 (h:bss T ops.toList K.n i sl=some (t,k,ds)) (hk0:0 < k) (hk:∀ d ∈ ds,d.cells.length=k) (hg:GF K fr (.ops ops l) Q ⟨(t,.osl k ds) :: sl,mem⟩):GF K fr (.ops ops (i :: l)) Q ⟨sl,mem⟩:=by
 obtain ⟨o,ho1,h1⟩:=opK_of h
 obtain ⟨t',hdt,ht,h2⟩:=dstK_of h1
 clear h h1
 have h:=h2
 clear h2
 have hoi:ops[i]? = some o:=by rw [nth_eq] at ho1;rw [← ho1];simp
 split at h
 · cases h
 · rename_i hgd
   split at h
   · rename_i ty len parts hop
     obtain ⟨xs,h,hps,hln⟩:=seqK_of h
     split at h
     · rename_i hsz
       have hsz:=sizeIs_of _ _ hsz
       split at h
       · cases h
       · rename_i ti hlk
         split at h
         · rename_i e k1 b1 zs hkd
           obtain ⟨hu,z,hz,hz1,hzs⟩:=slice_of (tabB_look hT hlk) hkd
           split at h
           · rename_i hszz
             have hszz:=sizeIs_of _ _ hszz
             split at h
             · rename_i hle
               rw [evsK_eq] at h
               obtain ⟨ds',h1,h⟩:=toDsK_of h
               injection h with h;injection h with f1 h;injection h with f2 f3
               subst f1;subst f2;subst f3
               obtain ⟨dd,op,rt,pos,af,gg⟩:=o
               dsimp only at hdt hop hgd
               subst hdt;subst hop
               refine GOps_val hoi hgd (Y_buildSlice (xs:=xs) hu hz ?_ hsz (hzs.trans hszz) ?_ hk (Nat.le_of_ble_eq_true hle) hk0 ht) hg
               · rw [hps,nums_eq,List.take_range,Nat.min_eq_left (by simpa [nums] using hln)]
               · rw [← h1];congr 1;exact List.map_congr_left fun x _=>(evl_eq' sl mem x).symm
             · cases h
           · cases h
         · cases h
     · cases h
   · cases h
def frzK {β:Sort _} (n:Nat) (F:Nat→PV):List (Nat×PV)→(List (Nat×PV)→β)→β
 | [],k=>k []
 | (i,p) :: r,k=>match p with
  | .ref b off=>match Nat.beq b n with
   | true=>frc (F off) fun q=>frzK n F r fun l=>k ((i,q) :: l)
   | false=>frzK n F r fun l=>k ((i,.ref b off) :: l)
  | .d x=>frzK n F r fun l=>k ((i,.d x) :: l)
  | .nils=>frzK n F r fun l=>k ((i,.nils) :: l)
  | .undef=>frzK n F r fun l=>k ((i,.undef) :: l)
  | .osl m xs=>frzK n F r fun l=>k ((i,.osl m xs) :: l)
  | p=>frc (PV.frz n F noH .undef p) fun q=>frzK n F r fun l=>k ((i,q) :: l)
theorem frzK_eq (n:Nat) (F:Nat→PV):∀ (l:List (Nat×PV)) (k:List (Nat×PV)→β),frzK n F l k=k (l.map fun x=>(x.1,PV.frz n F noH .undef x.2))
 | [],_=>rfl
 | (i,p) :: r,k=>by
  cases p with
  | ref b off=>
   rw [frzK]
   cases hb:Nat.beq b n with
   | true=>dsimp only;rw [frc_eq,frzK_eq n F r,List.map_cons,PV.frz,if_pos (Nat.eq_of_beq_eq_true hb)]
   | false=>dsimp only;rw [frzK_eq n F r,List.map_cons,PV.frz,if_neg (Nat.ne_of_beq_eq_false hb)]
  | d x=>rw [frzK,frzK_eq n F r,List.map_cons,PV.frz]
  | nils=>rw [frzK,frzK_eq n F r,List.map_cons,PV.frz]
  | undef=>rw [frzK,frzK_eq n F r,List.map_cons,PV.frz]
  | osl m xs=>rw [frzK,frzK_eq n F r,List.map_cons,PV.frz]
  | _=>unfold frzK;dsimp only;rw [frc_eq,frzK_eq n F r,List.map_cons]
def popK {α:Type} {β:Sort _}:List α→(List α→α→Option β)→Option β
 | [],_=>none
 | x :: r,k=>match r with
  | []=>k [] x
  | y :: r'=>popK (y :: r') fun l z=>k (x :: l) z
theorem popK_of {α:Type}:∀ {l:List α} {k:List α→α→Option β} {r:β},popK l k=some r→∃ l' z,l=l'++[z]∧k l' z=some r
 | [],_,_,h=>by cases h
 | [x],k,r,h=>⟨[],x,rfl,h⟩
 | x :: y :: l,k,r,h=>by
  obtain ⟨l',z,h1,h2⟩:=popK_of (l:=y :: l) (k:=fun l z=>k (x :: l) z) h
  exact ⟨x :: l',z,by rw [h1];rfl,h2⟩
def frs (isAgg:Bool) (s:GS):Option (Nat×D×GS):=match s with
 | ⟨sl,mem⟩=>popK mem fun keep cs=>lenK keep fun n=>match PV.toDs cs with
  | some ds=>match isAgg with
   | true=>frzK n (ptrF (.agg ds)) sl fun sl'=>some (n,.agg ds,⟨sl',keep⟩)
   | false=>match ds with
    | [d]=>match isLeaf d with
     | true=>frzK n (ptrF d) sl fun sl'=>some (n,d,⟨sl',keep⟩)
     | false=>none
    | _=>none
  | none=>none
theorem gFz (isAgg:Bool) {K:Ctx} {fr:List Fr} {c:Cf} {Q:Exit→GS→Prop} {s s':GS} {n:Nat} {d:D} (h:frs isAgg s=some (n,d,s')) (hk:K.m0.length≤n) (hrf:s'.mem.all (PV.refsBs n)=true) (hc:goes c=true) (hg:GF K fr c Q s'):GF K fr c Q s:=by
 obtain ⟨sl,mem⟩:=s
 unfold frs at h
 dsimp only at h
 obtain ⟨keep,cs,hm,h⟩:=popK_of h
 rw [lenK_eq] at h
 split at h
 · rename_i ds hds
   split at h
   · rw [frzK_eq] at h
     injection h with h;injection h with f1 h;injection h with f2 f3
     subst f1;subst f2;subst f3
     exact gLe (Le_freeze keep.length hm rfl hds rfl hk hrf) hg hc
   · split at h
     · split at h
       · rename_i hl
         rw [frzK_eq] at h
         injection h with h;injection h with f1 h;injection h with f2 f3
         subst f1;subst f2;subst f3
         exact gLe (Le_freeze keep.length hm rfl hds (isLeaf_of hl) hk hrf) hg hc
       · cases h
     · cases h
 · cases h
end
section
def CO (K:Ctx) (fr:List Fr) (ops:Array Oper) (base:List (Nat×PV)) (mem:List (List PV)) (i:Nat) (es:List (Nat×Nat×PV)) (Q:Exit→GS→Prop):Prop:=CGk [] K ops (fun _=>mem) base (unf K Q fr) i es
def dpK {β:Sort _}:List Edge→(List Nat→Option β)→Option β
 | [],k=>k []
 | e :: r,k=>match e with
  | ⟨on,gr⟩=>match Region.binds .any ⟨on,gr⟩ with
   | true=>dpK r fun l=>k (on :: l)
   | false=>dpK r k
variable {β:Sort _}
theorem dpK_of:∀ {es:List Edge} {k:List Nat→Option β} {r:β},dpK es k=some r→k ((es.filter fun e=>Region.binds .any e).map (·.on))=some r
 | [],_,_,h=>h
 | ⟨on,gr⟩ :: r,k,_,h=>by
  rw [dpK] at h
  rw [List.filter_cons]
  split at h
  · rename_i hb
    rw [if_pos hb,List.map_cons]
    exact dpK_of h
  · rename_i hb
    rw [if_neg (by rw [hb];decide)]
    exact dpK_of h
def memN (d:Nat):List Nat→Bool
 | []=>false
 | x :: r=>match Nat.beq d x with
  | true=>true
  | false=>memN d r
theorem memN_eq (d:Nat):∀ l:List Nat,memN d l=l.contains d
 | []=>rfl
 | x :: r=>by
  rw [memN,List.contains_cons]
  cases hb:Nat.beq d x with
  | true=>rw [show (d == x)=true from beq_iff_eq.2 (Nat.eq_of_beq_eq_true hb)];rfl
  | false=>rw [show (d == x)=false from beq_eq_false_iff_ne.2 (Nat.ne_of_beq_eq_false hb),memN_eq d r];rfl
def pickK {β:Sort _} (ds:List Nat):List (Nat×Nat×PV)→(List (Nat×PV)→Option β)→Option β
 | [],k=>k []
 | (i,t,p) :: r,k=>match memN i ds with
  | true=>pickK ds r fun l=>k ((t,p) :: l)
  | false=>pickK ds r k
theorem pickK_of (ds:List Nat):∀ {es:List (Nat×Nat×PV)} {k:List (Nat×PV)→Option β} {r:β},pickK ds es k=some r→k (pick es ds)=some r
 | [],_,_,h=>h
 | (i,t,p) :: es,k,_,h=>by
  rw [pickK] at h
  unfold pick
  rw [List.filter_cons]
  split at h
  · rename_i hb
    rw [memN_eq] at hb
    rw [if_pos hb,List.map_cons]
    exact pickK_of ds h
  · rename_i hb
    rw [memN_eq] at hb
    rw [if_neg (by rw [hb];decide)]
    exact pickK_of ds h
def see (ops:List Oper) (i:Nat) (es:List (Nat×Nat×PV)) (base:List (Nat×PV)):Option (List (Nat×PV)):=opK ops i fun o=>dpK o.after.toList fun ds=>pickK ds es fun l=>appK l base some
variable {ops:Array Oper} {i:Nat} {es:List (Nat×Nat×PV)} {base pre:List (Nat×PV)}
theorem see_of (h:see ops.toList i es base=some pre):∃ o,ops[i]? = some o∧pre=pick es (depsOf ops i)++base:=by
 obtain ⟨o,ho,h⟩:=opK_of h
 have hoi:ops[i]? = some o:=by rw [nth_eq] at ho;rw [← ho];simp
 refine ⟨o,hoi,?_⟩
 have h1:=pickK_of _ (dpK_of h)
 rw [appK_eq] at h1
 injection h1 with h1
 unfold depsOf
 rw [hoi]
 exact h1.symm
variable {K:Ctx} {fr:List Fr} {mem:List (List PV)} {j t:Nat} {es':List (Nat×Nat×PV)} {Q:Exit→GS→Prop} {p:PV}
theorem oStep (hs:see ops.toList i es base=some pre) (hj:nth nums (i + 1)=some j) (hes:snocK es (i,t,p) some=some es')
 (hc:CO K fr ops base mem j es' Q) (hstep:∀ (rest:List (Nat×PV)) (Q':Exit→GS→Prop),GF K [] (.ops ops []) Q' ⟨(t,p) :: (pre++rest),mem⟩→GF K [] (.ops ops [i]) Q' ⟨pre++rest,mem⟩):CO K fr ops base mem i es Q:=by
 obtain ⟨o,ho,rfl⟩:=see_of hs
 have hj:i + 1=j:=by
  rw [nth_eq,nums_eq] at hj
  have:=List.getElem?_eq_some_iff.1 hj
  obtain ⟨_,h⟩:=this
  simpa using h
 rw [snocK_eq] at hes
 injection hes with hes
 subst hj;subst hes
 have hck:CFk [] K ops (fun _=>mem) base (unf K Q fr) i es (fun rest=>pick es (depsOf ops i)++base++rest):=
  ck_st (i + 1) (fun b rest _ _ _=>ofO (fr:=[]) (hstep rest (fun e s'=>e=.normal∧s'=⟨(t,p) :: (pick es (depsOf ops i)++base++rest),mem⟩) (toO (fr:=[]) (gN ⟨rfl,rfl⟩)))) hc rfl rfl
 refine hck (depsOf ops i) (fun _=>rfl) ?_
 rw [List.all_eq_true]
 intro d hd
 rw [Bool.and_eq_true]
 exact ⟨by simpa using hd,rfl⟩
def putK {β:Sort _}:List (Nat×Nat×PV)→List (Nat×PV)→(List (Nat×PV)→Option β)→Option β
 | [],b,k=>k b
 | (_,t,p) :: r,b,k=>putK r b fun l=>k ((t,p) :: l)
theorem putK_of:∀ {es:List (Nat×Nat×PV)} {b:List (Nat×PV)} {k:List (Nat×PV)→Option β} {r:β},putK es b k=some r→k (es.map (·.2)++b)=some r
 | [],_,_,_,h=>h
 | (_,t,p) :: es,b,k,_,h=>by rw [putK] at h;exact putK_of (es:=es) h
theorem oEnd {sl:List (Nat×PV)} (hi:sizeIs ops.toList i=true) (hp:putK es base some=some sl) (h:GF K fr (.leave .normal) Q ⟨sl,mem⟩)
 (hn:nodupB (es.map (·.2.1))=true) (hb:base.all (fun x=>!(es.map (·.2.1)).contains x.1)=true) (hf:es.all (fun x=>Nat.blt x.1 ops.size)=true):CO K fr ops base mem i es Q:=by
 have hi:=sizeIs_of _ _ hi
 have hp:=putK_of hp
 injection hp with hp
 subst hp
 refine ⟨es,.done hi.symm,nodupB_iff hn,fun x hx hm=>?_,fun x hx=>blt_of (List.all_eq_true.1 hf x hx),?_⟩
 · have:=List.all_eq_true.1 hb x hx
   simp only [Bool.not_eq_true',List.contains_eq_mem,decide_eq_false_iff_not] at this
   exact this hm
 · have:(es.filter fun x=>(List.lookup x.1 ([]:List (Nat×Nat))).isNone)=es:=List.filter_eq_self.2 (fun x _=>rfl)
   rw [this]
   exact h
def dstsK {β:Sort _}:List Oper→(List Nat→Option β)→Option β
 | [],k=>k []
 | o :: r,k=>match o.dst with
  | some t=>dstsK r fun l=>k (t :: l)
  | none=>dstsK r k
def fltK {β:Sort _} (ds:List Nat):List (Nat×PV)→(List (Nat×PV)→Option β)→Option β
 | [],k=>k []
 | (t,p) :: r,k=>match memN t ds with
  | true=>fltK ds r k
  | false=>fltK ds r fun l=>k ((t,p) :: l)
theorem fltK_of (ds:List Nat):∀ {sl:List (Nat×PV)} {k:List (Nat×PV)→Option β} {r:β},fltK ds sl k=some r→k (sl.filter fun x=>!ds.contains x.1)=some r
 | [],_,_,h=>h
 | (t,p) :: sl,k,_,h=>by
  rw [fltK] at h
  rw [List.filter_cons]
  split at h
  · rename_i hb
    rw [memN_eq] at hb
    rw [if_neg (by rw [hb];decide)]
    exact fltK_of ds h
  · rename_i hb
    rw [memN_eq] at hb
    rw [if_pos (by rw [hb];decide)]
    exact fltK_of ds h
def baseK (ops:List Oper) (sl:List (Nat×PV)):Option (List Nat×List (Nat×PV)):=dstsK ops fun ds=>fltK ds sl fun b=>some (ds,b)
theorem dstsK_any:∀ {ops:List Oper} {k:List Nat→Option β} {r:β},dstsK ops k=some r→∃ ds,k ds=some r
 | [],_,_,h=>⟨[],h⟩
 | o :: ops,k,_,h=>by
  rw [dstsK] at h
  split at h
  · obtain ⟨ds,h⟩:=dstsK_any h;exact ⟨_,h⟩
  · exact dstsK_any h
theorem gOpen {id:Nat} {sl:List (Nat×PV)} {ds:List Nat} (hb:baseK ops.toList sl=some (ds,base)) (hm:K.P.follows .mixedOrders=true)
 (hdep:((List.range ops.size).all fun i=>(depsOf ops i).all fun d=>Nat.blt d i)=true) (h:CO K fr ops base mem 0 [] Q):GF K fr (.code (.region id ops true)) Q ⟨sl,mem⟩:=by
 obtain ⟨ds',h1⟩:=dstsK_any hb
 have h2:=fltK_of ds' h1
 injection h2 with h2;injection h2 with h3 h4
 subst h3
 exact g_ck [] ds' (fun _=>mem) rfl h h4 hm hdep
variable {ob:List (Bool×Bool)}
theorem oV {T:List (Nat×TI)} (hT:tabB K.P T=true) (hs:see ops.toList i es base=some pre) (hj:nth nums (i + 1)=some j)
 (h:∀ rest,step T ops.toList K.n i ⟨pre++rest,mem⟩=some (ob,⟨(t,p) :: (pre++rest),mem⟩)) (hes:snocK es (i,t,p) some=some es') (hc:CO K fr ops base mem j es' Q) (ho:Obl ob):CO K fr ops base mem i es Q:=
 oStep hs hj hes hc fun rest _ hg=>toO (gv hT (h rest) (ofO hg) ho)
theorem oC {g:Option Bool} {f:FuncId} {ds:List D} {r:PV} (hs:see ops.toList i es base=some pre) (hj:nth nums (i + 1)=some j)
 (h:∀ rest,cls ops.toList K.n i (pre++rest)=some (t,g,ob,f,ds)) (hcl:isT g→Pf K.P f ds r) (hes:snocK es (i,t,whn g r) some=some es') (hc:CO K fr ops base mem j es' Q) (ho:Obl ob):CO K fr ops base mem i es Q:=
 oStep hs hj hes hc fun rest _ hg=>gC (h rest) hcl ho hg
theorem oI {T:List (Nat×TI)} {m:Nat} {g:Option Bool} {xs:List D} {ix:Int} (d:D) (hT:tabB K.P T=true) (hs:see ops.toList i es base=some pre) (hj:nth nums (i + 1)=some j)
 (h:∀ rest,ixs T ops.toList K.n i (pre++rest)=some (t,g,ob,xs,ix,m)) (hd:isT g→0≤ix∧xs[ix.toNat]? = some d∧d.cells.length=m) (hm:0 < m) (hes:snocK es (i,t,whn g (.d (.ptr d))) some=some es') (hc:CO K fr ops base mem j es' Q) (ho:Obl ob):CO K fr ops base mem i es Q:=
 oStep hs hj hes hc fun rest _ hg=>gI d hT (h rest) hd hm ho hg
theorem oQ {T:List (Nat×TI)} {g:Option Bool} {C:Prop} (hT:tabB K.P T=true) (hs:see ops.toList i es base=some pre) (hj:nth nums (i + 1)=some j)
 (h:∀ rest,qcs T ops.toList K.n i (pre++rest)=some (t,g,ob,C,p)) (hcc:isT g→C) (hes:snocK es (i,t,whn g p) some=some es') (hc:CO K fr ops base mem j es' Q) (ho:Obl ob):CO K fr ops base mem i es Q:=
 oStep hs hj hes hc fun rest _ hg=>gQ hT (h rest) hcc ho hg
end
section
def D.leafQ:D→D→Bool
 | .int k a,.int k' b=>decide (k=k') && decide (a=b)
 | .str a,.str b=>decide (a=b)
 | .bool a,.bool b=>decide (a=b)
 | _,_=>false
def D.leafsQ:List D→List D→Bool
 | [],[]=>true
 | a :: as,b :: bs=>D.leafQ a b && D.leafsQ as bs
 | _,_=>false
def D.keyQ:D→D→Bool
 | .agg as,.agg bs=>D.leafsQ as bs
 | a,b=>D.leafQ a b
theorem leafQ_iff:∀ {a b:D} {v u:Value},a.lit=some v→b.lit=some u→(D.leafQ a b=true ↔ v=u):=by
 intro a b v u ha hb
 cases a<;>first | (exfalso;simp [D.lit] at ha;done) | skip
 all_goals cases b<;>first | (exfalso;simp [D.lit] at hb;done) | skip
 all_goals (injection ha with ha;injection hb with hb;subst ha;subst hb;simp [D.leafQ])
theorem leafsQ_iff:∀ {as bs:List D} {vs us:List Value},D.lits as=some vs→D.lits bs=some us→(D.leafsQ as bs=true ↔ vs=us)
 | [],[],vs,us,ha,hb=>by injection ha with ha;injection hb with hb;subst ha;subst hb;simp [D.leafsQ]
 | a :: as,b :: bs,vs,us,ha,hb=>by
  rw [D.lits] at ha hb
  cases h1:a.lit with
  | none=>simp [h1] at ha
  | some v=>
   cases h2:D.lits as with
   | none=>simp [h1,h2] at ha
   | some vs'=>
    cases h3:b.lit with
    | none=>simp [h3] at hb
    | some u=>
     cases h4:D.lits bs with
     | none=>simp [h3,h4] at hb
     | some us'=>
      simp only [h1,h2,Option.some.injEq] at ha
      simp only [h3,h4,Option.some.injEq] at hb
      subst ha;subst hb
      rw [D.leafsQ,Bool.and_eq_true,leafQ_iff h1 h3,leafsQ_iff h2 h4,List.cons.injEq]
 | [],b :: bs,vs,us,ha,hb=>by
  injection ha with ha;subst ha
  rw [D.lits] at hb
  split at hb
  · injection hb with hb;subst hb;simp [D.leafsQ]
  · cases hb
 | a :: as,[],vs,us,ha,hb=>by
  injection hb with hb;subst hb
  rw [D.lits] at ha
  split at ha
  · injection ha with ha;subst ha;simp [D.leafsQ]
  · cases ha
theorem keyV_lit {a:D} (h:∀ cs,a ≠ .agg cs):a.keyV=a.lit:=by cases a<;>first | rfl | exact absurd rfl (h _)
theorem keyQ_leaf {a b:D} (h:∀ cs,a ≠ .agg cs):D.keyQ a b=D.leafQ a b:=by cases a<;>first | rfl | exact absurd rfl (h _)
variable {v u:Value}
theorem keyQ_iff {a b:D} (ha:a.keyV=some v) (hb:b.keyV=some u):D.keyQ a b=true ↔ v=u:=by
 cases a with
 | agg as=>
  cases b with
  | agg bs=>
   simp only [D.keyV,Option.map_eq_some_iff] at ha hb
   obtain ⟨vs,h1,rfl⟩:=ha
   obtain ⟨us,h2,rfl⟩:=hb
   rw [D.keyQ,leafsQ_iff h1 h2]
   simp
  | _=>
   simp only [D.keyV,Option.map_eq_some_iff] at ha
   obtain ⟨vs,h1,rfl⟩:=ha
   first | (exfalso;simp [D.keyV,D.lit] at hb;done) | (injection hb with hb;subst hb;show false=true ↔ _;simp)
 | _=>
  cases b with
  | agg bs=>
   simp only [D.keyV,Option.map_eq_some_iff] at hb
   obtain ⟨vs,h1,rfl⟩:=hb
   first | (exfalso;simp [D.keyV,D.lit] at ha;done) | (injection ha with ha;subst ha;show false=true ↔ _;simp)
  | _=>
   rw [keyV_lit (by intro cs h;cases h)] at ha hb
   rw [keyQ_leaf (by intro cs h;cases h)]
   exact leafQ_iff ha hb
variable {w:World} {S:Reg}
theorem rd_lit {d:D} (hl:d.lit=some u) (h:Rd w S d v):v=u:=by
 cases d<;>first | (exfalso;simp [D.lit] at hl;done) | (injection hl with hl;subst hl;cases h;rfl)
theorem lits_get:∀ {ds:List D} {vs:List Value},D.lits ds=some vs→vs.length=ds.length∧∀ (i:Nat) d v,ds[i]? = some d→vs[i]? = some v→d.lit=some v
 | [],vs,h=>by injection h with h;subst h;exact ⟨rfl,fun i d v h=>by simp at h⟩
 | d :: ds,vs,h=>by
  rw [D.lits] at h
  split at h
  · rename_i v vs' h1 h2
    injection h with h;subst h
    obtain ⟨h3,h4⟩:=lits_get h2
    refine ⟨by simp [h3],fun i d' v' hd hv=>?_⟩
    cases i with
    | zero=>simp only [List.getElem?_cons_zero,Option.some.injEq] at hd hv;subst hd;subst hv;exact h1
    | succ i=>exact h4 i d' v' (by simpa using hd) (by simpa using hv)
  · cases h
theorem rd_keyV {k:D} (hk:k.keyV=some u) (h:Rd w S k v):v=u:=by
 cases k with
 | agg cs=>
  simp only [D.keyV,Option.map_eq_some_iff] at hk
  obtain ⟨vs,h1,rfl⟩:=hk
  cases h with
  | agg _ us hl ho hh=>
   obtain ⟨h2,h3⟩:=lits_get h1
   congr 1
   apply Array.ext
   · simp [hl,h2]
   · intro i hi1 hi2
     have hi:i < cs.length:=by omega
     have hv:i < vs.length:=by omega
     have:=rd_lit (h3 i _ _ (gE hi) (gE hv)) (hh i _ _ (gE hi) (Array.getElem?_eq_getElem hi1))
     rw [this];simp
 | _=>exact rd_lit (by rw [← keyV_lit (by intro cs h;cases h)];exact hk) h
def KG (P:Program) (kt:TypeId) (k:D):Prop:=∃ v l,k.keyV=some v∧keyOf P kt v=some l
def KRel (ks:List D) (es:Array MapEntry):Prop:=(∀ (k k':Nat) e e',es[k]? = some e→es[k']? = some e'→e.key=e'.key→k=k')∧(∀ (i:Nat) e,es[i]? = some e→∃ (j:Nat) (k:D),ks[j]? = some k∧k.keyV=some e.key)∧∀ (j:Nat) (k:D),ks[j]? = some k→∃ (i:Nat) (e:MapEntry),es[i]? = some e∧k.keyV=some e.key
theorem findG {P:Program} {kt:TypeId} (L:WideMaps.KeyLaw P kt) {ks:List D} {es:Array MapEntry} (hrel:KRel ks es) (hks:∀ k ∈ ks,KG P kt k) {k:D} (hk:KG P kt k) (w:World):∃ kv,k.keyV=some kv∧(Instr.checkKey false 10000 kt kv).run P w=.ok () w∧(Instr.checkKey es.isEmpty 10000 kt kv).run P w=.ok () w∧(Instr.keyThatStays kv kv).run P w=.ok kv w∧
 (((Instr.findKey kt kv es.toList).run P w=.ok none w∧∀ k' ∈ ks,k'.keyQ k=false)∨
  ∃ (i:Nat) (e:MapEntry) (j:Nat) (k':D),(Instr.findKey kt kv es.toList).run P w=.ok (some (i,e.val)) w∧es[i]? = some e∧e.key=kv∧ks[j]? = some k'∧k'.keyQ k=true):=by
 obtain ⟨kv,l,h1,h2⟩:=hk
 refine ⟨kv,h1,L.check w false h2,L.check w es.isEmpty h2,L.stays w h2,?_⟩
 have hes:∀ e ∈ es.toList,∃ l,keyOf P kt e.key=some l:=fun e he=>by
  obtain ⟨i,hi⟩:=List.mem_iff_getElem?.1 he
  obtain ⟨j,k',hj,hkv⟩:=hrel.2.1 i e (by simpa using hi)
  obtain ⟨v',l',h3,h4⟩:=hks k' (mG hj)
  rw [hkv] at h3;injection h3 with h3;subst h3;exact ⟨l',h4⟩
 rcases L.find w h2 es.toList hes with ⟨h3,h4⟩ | ⟨i,e,h3,h4,h5⟩
 · refine .inl ⟨h3,fun k' hk'=>?_⟩
   obtain ⟨j,hj⟩:=List.mem_iff_getElem?.1 hk'
   obtain ⟨i,e,hi,hkv⟩:=hrel.2.2 j k' hj
   have hne:=h4 e (List.mem_iff_getElem?.2 ⟨i,by simpa using hi⟩)
   cases hq:k'.keyQ k with
   | false=>rfl
   | true=>exact absurd ((keyQ_iff hkv h1).1 hq) hne
 · have hi:es[i]? = some e:=by simpa using h4
   obtain ⟨j,k',hj,hkv⟩:=hrel.2.1 i e hi
   exact .inr ⟨i,e,j,k',h3,hi,h5,hj,(keyQ_iff hkv h1).2 h5⟩
variable {K:Ctx} {s:GS}
theorem Rep.mapP {O:Owns} {m:List Nat} {a:Act} (h:Rep K S O m s a w) {b:Nat} {ks:List D} {vs:List PV} (hb:s.mem[b]? = some (mpc ks vs)) (hl:vs.length=ks.length) (hit:∀ k ∈ ks,k ≠ .nilF):
 ∃ r es c,m[b]? = some r∧O r=some ([b,1],0)∧w.heap[r]? = some (.map es c)∧KRel ks es∧∀ (i:Nat) e (j:Nat) k q,es[i]? = some e→ks[j]? = some k→k.keyV=some e.key→vs[j]? = some q→RP w S O m [j + 1,b,1] q e.val:=by
 have hlt:b < m.length:=by rw [h.env.mlen];exact (lG hb)
 obtain ⟨hO,hblk⟩:=h.env.mem b _ m[b] hb (gE hlt) (by simp [mpc])
 have hget:∀ (j:Nat) (x:D×D),(ks.map fun k=>(k,k))[j]? = some x→ks[j]? = some x.1:=fun j x hx=>by
  rw [List.getElem?_map] at hx
  cases hk:ks[j]? with
  | none=>simp [hk] at hx
  | some k=>simp only [hk,Option.map_some,Option.some.injEq] at hx;subst hx;rfl
 have hput:∀ (j:Nat) (k:D),ks[j]? = some k→(ks.map fun k=>(k,k))[j]? = some (k,k):=fun j k hk=>by rw [List.getElem?_map,hk];rfl
 unfold mpc at hblk
 rcases hblk with ⟨vs',el,h1,h2,h3,h4⟩ | ⟨kvs',es,c,hc,h1,h2,h3,h4⟩ | ⟨_,hc⟩ | ⟨b',pos,hc,h1⟩ | ⟨kvs',p,vs',es,c,hc,h1,h2,h3,h5,h4⟩
 · exfalso
   have hlt:0 < vs'.size:=by simp at h2;omega
   have:=h4 0 _ _ rfl (Array.getElem?_eq_getElem hlt)
   cases this
 · injection hc with hc hv
   subst hv
   have hks:ks=[]:=List.eq_nil_of_length_eq_zero hl.symm
   subst hks
   injection hc with hc
   subst hc
   refine ⟨m[b],es,c,gE hlt,hO,h1,⟨fun i i' e e' hi=>?_,fun i e hi=>?_,fun j k hj=>by simp at hj⟩,fun i e j k q _ hj=>by simp at hj⟩<;>
    (obtain ⟨x,hx,_⟩:=h2 i e hi;cases hx)
 · cases hc
 · exfalso
   injection hc with hc hv
   injection hc with hc
   cases ks with
   | nil=>simp [iterK] at hc
   | cons k r=>
    simp only [List.map_cons,iterK,List.cons.injEq,Prod.mk.injEq] at hc
    exact hit k (by simp) hc.1.1
 · injection hc with hc hv
   injection hc with hc
   subst hv;subst hc
   refine ⟨m[b],es,c,gE hlt,hO,h1,⟨h5,fun i e hi=>?_,fun j k hj=>?_⟩,fun i e j k q hi hj hk hq=>h4 i e j (k,k) q hi (hput j k hj) hk hq⟩
   · obtain ⟨j,x,hj,hx⟩:=h2 i e hi;exact ⟨j,x.1,hget j x hj,hx⟩
   · exact h3 j (k,k) (hput j k hj)
theorem Rep.setMapP {O:Owns} {m:List Nat} {a:Act} (h:Rep K S O m s a w) {b r:Nat} {ks ks':List D} {vs vs':List PV} {es es':Array MapEntry} {c c':Nat} (hb:s.mem[b]? = some (mpc ks vs)) (hr:m[b]? = some r)
 (hh:w.heap[r]? = some (.map es c)) (hne:vs' ≠ []) (hrel:KRel ks' es') (hv:∀ (i:Nat) e (j:Nat) k q,es'[i]? = some e→ks'[j]? = some k→k.keyV=some e.key→vs'[j]? = some q→RP w S O m [j + 1,b,1] q e.val):
 Rep K S O m ⟨s.slots,s.mem.set b (mpc ks' vs')⟩ a { w with heap:=w.heap.setIfInBounds r (.map es' c') }:=by
 have he:=h.env
 obtain ⟨hown,_⟩:=he.mem b _ r hb hr (by simp [mpc])
 have hSr:∀ o,¬ S r o:=fun o hS=>absurd (he.sown r o _ _ hS hown) (Nat.not_lt_zero _)
 have hE:Ext S w { w with heap:=w.heap.setIfInBounds r (.map es' c') }:=ext_setMap hh hSr
 have hoth:∀ b',b' ≠ r→({ w with heap:=w.heap.setIfInBounds r (.map es' c') }:World).heap[b']? = w.heap[b']?:=fun b' hb'=>(MapKept.heap_set hh).2 b' hb'
 refine ⟨⟨he.ext.trans hE he.s0,fun k hk hO=>?_,fun k l t o hk hO hot=>?_,he.s0,he.snew,he.sown,fun k o hS=>?_,fun k l t hO=>?_,he.onew,by simp [he.mlen],fun i cs r' hi hr' hne=>?_⟩,h.defers,h.size,h.pre,fun i p hp=>(h.slots i p hp).ext hE (fun _ _ h=>h) (fun _ _ _ h=>h) (fun _ _ h=>h)⟩
 · have:k ≠ r:=by
    rintro rfl
    rcases he.onew k _ _ hown with h1 | ⟨l0,t0,h1,_⟩
    · omega
    · rw [hO] at h1;cases h1
   rw [hoth k this];exact he.old k hk hO
 · have:k ≠ r:=by
    rintro rfl
    rcases he.onew k _ _ hown with h1 | ⟨l0,t0,h1,h2⟩
    · omega
    · rw [hO] at h1;injection h1 with h1;injection h1 with _ h1;omega
   have hc:({ w with heap:=w.heap.setIfInBounds r (.map es' c') }:World).cell? ⟨k,o,none⟩=w.cell? ⟨k,o,none⟩:=by simp only [World.cell?,hoth k this]
   rw [hc];exact he.part k l t o hk hO hot
 · have:=he.slt k o hS;simpa using this
 · have:=he.olt k l t hO;simpa using this
 · by_cases hib:i=b
   · subst hib
     rw [hr] at hr';injection hr' with hr';subst hr'
     have hlt:i < s.mem.length:=(lG hb)
     have hi':mpc ks' vs'=cs:=by
      have:(s.mem.set i (mpc ks' vs'))[i]? = some cs:=hi
      rw [List.getElem?_set_self hlt] at this;injection this
     subst hi'
     obtain ⟨h0,h1,h2⟩:=hrel
     match vs',hne with
     | p :: vs',_=>
      refine ⟨hown,.inr (.inr (.inr (.inr ⟨ks'.map (fun k=>(k,k)),p,vs',es',c',rfl,(MapKept.heap_set hh).1,fun k e hk=>?_,fun j x hj=>?_,h0,fun k e j x q hk hj hx hq=>?_⟩)))⟩
      · obtain ⟨j,k',hj,hx⟩:=h1 k e hk
        exact ⟨j,(k',k'),by rw [List.getElem?_map,hj];rfl,hx⟩
      · rw [List.getElem?_map] at hj
        cases hk:ks'[j]? with
        | none=>simp [hk] at hj
        | some k=>simp only [hk,Option.map_some,Option.some.injEq] at hj;subst hj;exact h2 j k hk
      · rw [List.getElem?_map] at hj
        cases hk':ks'[j]? with
        | none=>simp [hk'] at hj
        | some k'=>
         simp only [hk',Option.map_some,Option.some.injEq] at hj;subst hj
         exact (hv k e j k' q hk hk' hx hq).ext hE (fun _ _ h=>h) (fun _ _ _ h=>h) (fun _ _ h=>h)
   · have hi':s.mem[i]? = some cs:=by
      have:(s.mem.set b (mpc ks' vs'))[i]? = some cs:=hi
      rwa [List.getElem?_set_ne (Ne.symm hib)] at this
     obtain ⟨g1,g2⟩:=he.mem i cs r' hi' hr' hne
     have hrr:r' ≠ r:=by
      rintro rfl
      rw [g1] at hown;injection hown with hown;injection hown with hown _;injection hown with hown _;exact hib hown
     exact ⟨g1,g2.frame (hoth r' hrr) hE (fun _ _ h=>h) (fun _ _ _ _ h=>h) (fun _ _ h=>h)⟩
def hasK (k:D):List D→Bool
 | []=>false
 | x :: r=>match x.keyQ k with
  | true=>true
  | false=>hasK k r
theorem hasK_true {k x:D}:∀ {ks:List D},x ∈ ks→x.keyQ k=true→hasK k ks=true
 | y :: r,hx,hq=>by
  rw [hasK]
  split
  · rfl
  · rename_i hy
    rcases List.mem_cons.1 hx with rfl | hx
    · rw [hq] at hy;cases hy
    · exact hasK_true hx hq
def repK (k:D) (p:PV):List D→List PV→List PV
 | x :: r,v :: vs=>(match x.keyQ k with
  | true=>p
  | false=>v) :: repK k p r vs
 | _,vs=>vs
variable {p:PV}
theorem repK_get {k:D}:∀ {ks:List D} {vs:List PV} {j:Nat} {x:D} {q:PV},ks[j]? = some x→(repK k p ks vs)[j]? = some q→(x.keyQ k=true∧q=p)∨(x.keyQ k=false∧vs[j]? = some q)
 | [],_,_,_,_,h,_=>by simp at h
 | y :: r,[],j,x,q,_,h=>by rw [repK] at h;simp at h;intros;simp_all
 | y :: r,v :: vs,j,x,q,hx,h=>by
  rw [repK] at h
  cases j with
  | zero=>
   simp only [List.getElem?_cons_zero,Option.some.injEq] at hx h
   subst hx
   split at h
   · rename_i hq;exact .inl ⟨hq,h.symm⟩
   · rename_i hq;exact .inr ⟨hq,by simpa using h⟩
  | succ j=>
   rw [List.getElem?_cons_succ] at h hx
   rw [List.getElem?_cons_succ]
   exact repK_get hx h
theorem repK_ne {k:D}:∀ {ks:List D} {vs:List PV},vs ≠ []→repK k p ks vs ≠ []
 | [],_,h=>h
 | _ :: _,[],h=>absurd rfl h
 | _ :: _,_ :: _,_=>by rw [repK];simp
def putKs (ks:List D) (k:D):List D:=match hasK k ks with
 | true=>ks
 | false=>ks++[k]
def putVs (ks:List D) (k:D) (vs:List PV) (p:PV):List PV:=match hasK k ks with
 | true=>repK k p ks vs
 | false=>vs++[p]
theorem D_mapUp {mx kx vx:Operand} {ty rt kt et:TypeId} {pos:String} {af:Array Edge} {g:Option (Nat×Bool)} {b:Nat} {ks:List D} {vs:List PV} {k:D} (L:WideMaps.KeyLaw K.P kt) (hu:K.P.underlying ty=some (.map kt et))
 (hmx:s.ev mx=.mref b) (hm:s.mem[b]? = some (mpc ks vs)) (hl:vs.length=ks.length) (hit:∀ k ∈ ks,k ≠ .nilF) (hks:∀ k ∈ ks,KG K.P kt k) (hkx:s.ev kx=.d k) (hk:KG K.P kt k) (hvx:s.ev vx=p) (hno:p.noown=true):
 Does K ⟨none,.mapUpdate ty mx kx vx,rt,pos,af,g⟩ s ⟨s.slots,s.mem.set b (mpc (putKs ks k) (putVs ks k vs p))⟩:=by
 rintro a w ⟨S,O,m,h⟩
 obtain ⟨r,es,c,hr,hO,hh,hrel,hval⟩:=h.mapP hm hl hit
 obtain ⟨l,hrm⟩:=h.ev mx
 rw [hmx] at hrm
 generalize hmv:a.eval mx=mv at hrm
 obtain ⟨lv,hrv⟩:=h.ev vx
 rw [hvx] at hrv
 obtain ⟨kv,h1,h2,_,h4,h5⟩:=findG L hrel hks hk w
 have hke:=rd_keyV h1 (h.evd hkx)
 cases hrm with
 | mref _ _ r' hr'=>
  rw [hr] at hr';injection hr' with hr';subst hr'
  rcases h5 with ⟨f1,f2⟩ | ⟨i,e,j,k',f1,f2,f3,f4,f5⟩
  · have hha:hasK k ks=false:=by
     cases hq:hasK k ks with
     | false=>rfl
     | true=>
      exfalso
      have:∀ ks:List D,(∀ x ∈ ks,x.keyQ k=false)→hasK k ks=false:=by
       intro ks
       induction ks with
       | nil=>intro _;rfl
       | cons x r ih=>intro h;rw [hasK,h x (by simp)];exact ih fun y hy=>h y (by simp [hy])
      rw [this ks f2] at hq;cases hq
    unfold putKs putVs
    rw [hha]
    refine ⟨{ w with heap:=w.heap.setIfInBounds r (.map (es.push { key:=a.eval kx,val:=a.eval vx,born:=c }) (c + 1)) },?_,S,O,m,h.setMapP hm hr hh (by simp) ⟨fun i i' e e' hi hi' he=>?_,fun i e hi=>?_,fun j x hj=>?_⟩ (fun i e j x q hi hj hx hq=>?_)⟩
    · simp only [execOp,hmv]
      simp [Instr.mapUpdate,run_underlying hu,MapKept.run_getObj_map hh,hke,h2,f1,MapKept.run_setObj_map _ hh,Result.andThen]
    · rw [Array.getElem?_push] at hi hi'
      have hno':∀ (i:Nat) e,es[i]? = some e→e.key ≠ a.eval kx:=fun i e hi he=>by
       obtain ⟨j,x,hj,hx⟩:=hrel.2.1 i e hi
       have:=f2 x (mG hj)
       rw [(keyQ_iff hx h1).2 (by rw [he,hke])] at this;cases this
      split at hi<;>split at hi'
      · omega
      · injection hi with hi;subst hi;exact absurd he.symm (hno' i' e' hi')
      · injection hi' with hi';subst hi';exact absurd he (hno' i e hi)
      · exact hrel.1 i i' e e' hi hi' he
    · rw [Array.getElem?_push] at hi
      split at hi
      · injection hi with hi;subst hi;exact ⟨ks.length,k,by simp,by rw [h1,hke]⟩
      · obtain ⟨j,x,hj,hx⟩:=hrel.2.1 i e hi
        exact ⟨j,x,by rw [List.getElem?_append_left (lG hj)];exact hj,hx⟩
    · by_cases hjl:j < ks.length
      · rw [List.getElem?_append_left hjl] at hj
        obtain ⟨i,e,hi,hx⟩:=hrel.2.2 j x hj
        exact ⟨i,e,by rw [Array.getElem?_push,if_neg (Nat.ne_of_lt (Array.getElem?_eq_some_iff.1 hi).1)];exact hi,hx⟩
      · rw [List.getElem?_append_right (by omega)] at hj
        have hj0:j - ks.length=0:=by
         have:=(lG hj);simp at this;omega
        rw [hj0] at hj
        simp only [List.getElem?_cons_zero,Option.some.injEq] at hj
        subst hj
        exact ⟨es.size,{ key:=a.eval kx,val:=a.eval vx,born:=c },by simp,by show k.keyV=some (a.eval kx);rw [h1,hke]⟩
    · rw [Array.getElem?_push] at hi
      by_cases hjl:j < ks.length
      · rw [List.getElem?_append_left hjl] at hj
        rw [List.getElem?_append_left (by omega)] at hq
        split at hi
        · injection hi with hi;subst hi
          exfalso
          have:=f2 x (mG hj)
          rw [(keyQ_iff hx h1).2 (by rw [hke])] at this;cases this
        · exact hval i e j x q hi hj hx hq
      · rw [List.getElem?_append_right (by omega)] at hj hq
        have hj0:j - ks.length=0:=by
         have:=(lG hj);simp at this;omega
        rw [hj0] at hj
        rw [show j - vs.length=0 by omega] at hq
        simp only [List.getElem?_cons_zero,Option.some.injEq] at hj hq
        subst hj;subst hq
        split at hi
        · injection hi with hi;subst hi;exact hrv.any hno _ _
        · exfalso
          obtain ⟨j',x',hj',hx'⟩:=hrel.2.1 i e hi
          have:=f2 x' (mG hj')
          rw [h1] at hx;injection hx with hx
          rw [(keyQ_iff hx' h1).2 hx.symm] at this;cases this
  · have hha:hasK k ks=true:=hasK_true (mG f4) f5
    unfold putKs putVs
    rw [hha]
    have hvne:vs ≠ []:=by
     rintro rfl
     have:=(lG f4)
     simp at hl;omega
    refine ⟨{ w with heap:=w.heap.setIfInBounds r (.map (es.modify i fun e=>{ e with key:=a.eval kx,val:=a.eval vx }) c) },?_,S,O,m,h.setMapP hm hr hh (repK_ne hvne) ?_ (fun i' e' j' x q hi hj hx hq=>?_)⟩
    · simp only [execOp,hmv]
      simp [Instr.mapUpdate,run_underlying hu,MapKept.run_getObj_map hh,hke,h2,f1,f2,f3,h4,MapKept.run_setObj_map _ hh,Result.andThen]
    · have hkey:∀ (i':Nat) e',(es.modify i fun e=>{ e with key:=a.eval kx,val:=a.eval vx })[i']? = some e'→∃ e0,es[i']? = some e0∧e0.key=e'.key:=fun i' e' hi'=>by
       rw [Array.getElem?_modify] at hi'
       split at hi'
       · rename_i hii
         subst hii
         rw [f2] at hi'
         injection hi' with hi';subst hi'
         exact ⟨e,f2,by rw [f3,hke]⟩
       · exact ⟨e',hi',rfl⟩
      have hkey':∀ (i':Nat) e0,es[i']? = some e0→∃ e',(es.modify i fun e=>{ e with key:=a.eval kx,val:=a.eval vx })[i']? = some e'∧e0.key=e'.key:=fun i' e0 hi'=>by
       rw [Array.getElem?_modify]
       split
       · rename_i hii
         subst hii
         rw [f2] at hi'
         injection hi' with hi';subst hi'
         exact ⟨_,by rw [f2];rfl,by rw [f3,hke]⟩
       · exact ⟨e0,hi',rfl⟩
      refine ⟨fun i1 i2 e1 e2 g1 g2 he=>?_,fun i1 e1 g1=>?_,fun j1 x1 g1=>?_⟩
      · obtain ⟨a1,b1,c1⟩:=hkey i1 e1 g1
        obtain ⟨a2,b2,c2⟩:=hkey i2 e2 g2
        exact hrel.1 i1 i2 a1 a2 b1 b2 (by rw [c1,c2,he])
      · obtain ⟨a1,b1,c1⟩:=hkey i1 e1 g1
        obtain ⟨j1,x1,d1,d2⟩:=hrel.2.1 i1 a1 b1
        exact ⟨j1,x1,d1,by rw [d2,c1]⟩
      · obtain ⟨i1,e1,b1,c1⟩:=hrel.2.2 j1 x1 g1
        obtain ⟨e2,d1,d2⟩:=hkey' i1 e1 b1
        exact ⟨i1,e2,d1,by rw [c1,d2]⟩
    · rw [Array.getElem?_modify] at hi
      split at hi
      · rename_i hii
        subst hii
        rw [f2] at hi
        injection hi with hi;subst hi
        rcases repK_get hj hq with ⟨_,rfl⟩ | ⟨g1,_⟩
        · exact hrv.any hno _ _
        · exfalso
          rw [(keyQ_iff hx h1).2 (by show a.eval kx=kv;exact hke)] at g1;cases g1
      · rename_i hii
        rcases repK_get hj hq with ⟨g1,rfl⟩ | ⟨g1,g2⟩
        · exfalso
          have:=(keyQ_iff hx h1).1 g1
          exact hii (hrel.1 i i' e e' f2 hi (by rw [f3,this]))
        · exact hval i' e' j' x q hi hj hx g2
end
end Go.Proofs.YtoonleefemkalaaDoor.E
