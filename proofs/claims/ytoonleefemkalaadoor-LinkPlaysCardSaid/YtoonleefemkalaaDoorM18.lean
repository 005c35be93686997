import Derived.Test.YtoonleefemkalaaDoorM17
import Derived.Test.YtoonleefemkalaaDoorM16
/- Contracts of functions. Conditions: none. -/
set_option linter.unusedSimpArgs false
set_option linter.unusedVariables false
namespace Go.Proofs.YtoonleefemkalaaDoor.E
open Go
inductive ConfQ (L n:Nat) (kl:List (Nat×Nat)) (K:Ctx) (ops:Array Oper) (M:(Nat→Bool)→List (List PV)) (base:List (Nat×PV)):Nat→List (Nat×Nat×PV)→List (Nat×Nat×PV)→Prop
 | done {i:Nat} {es:List (Nat×Nat×PV)}:i=L→ConfQ L n kl K ops M base i es es
 | step {i:Nat} {es fs:List (Nat×Nat×PV)} {sl r xt:List (Nat×PV)} (hs:StpK K ops M base i sl r xt) (hsl:∀ x ∈ sl,∃ d,(d ∈ depsOf ops i∨n≤d)∧(d,x) ∈ es∧(kl.lookup d=none∨kl.lookup d=some i)) (hx:∀ x ∈ xt,∃ d q,(d,x.1,q) ∈ es∧kl.lookup d=some i) (hc:ConfQ L n kl K ops M base (i + 1) (es++r.map fun x=>(i,x)) fs):ConfQ L n kl K ops M base i es fs
section
variable {L n:Nat} {kl:List (Nat×Nat)} {K:Ctx} {ops:Array Oper} {M:(Nat→Bool)→List (List PV)} {base:List (Nat×PV)}
theorem ConfQ.le {i:Nat} {es fs:List (Nat×Nat×PV)} (h:ConfQ L n kl K ops M base i es fs):i≤L∧∃ later,fs=es++later:=by
 induction h with
 | done h=>exact ⟨Nat.le_of_eq h,[],by simp⟩
 | step _ _ _ _ ih=>obtain ⟨h1,l,h⟩:=ih;exact ⟨by omega,_,by rw [h,List.append_assoc]⟩
theorem ConfQ.idx {i0:Nat} {es fs:List (Nat×Nat×PV)} (h:ConfQ L n kl K ops M base i0 es fs):∀ x ∈ fs,x ∈ es∨(i0≤x.1∧x.1 < L):=by
 induction h with
 | done _=>exact fun x hx=>.inl hx
 | @step j es fs sl r xt hs hsl hx hc ih=>
  intro x hx
  have hl:=hc.le.1
  rcases ih x hx with h | h
  · rcases List.mem_append.1 h with h | h
    · exact .inl h
    · obtain ⟨y,_,rfl⟩:=List.mem_map.1 h
      right
      show j≤j∧j < L
      omega
  · right;omega
theorem ConfQ.at {i0:Nat} {es fs:List (Nat×Nat×PV)} (h:ConfQ L n kl K ops M base i0 es fs) (hLn:L < n) (hes:∀ x ∈ es,x.1 < i0∨n≤x.1):
 ∀ i,i0≤i→i < L→∃ sl r xt,StpK K ops M base i sl r xt∧(∀ x ∈ r,(i,x) ∈ fs)∧(∀ x,(i,x) ∈ fs→x ∈ r)∧(∀ x ∈ sl,∃ d,(d ∈ depsOf ops i∨n≤d)∧(d,x) ∈ fs∧(kl.lookup d=none∨kl.lookup d=some i))∧∀ x ∈ xt,∃ d q,(d,x.1,q) ∈ fs∧kl.lookup d=some i:=by
 induction h with
 | done h=>intro i h1 h2;omega
 | @step j es fs sl r xt hs hsl hx hc ih=>
  intro i h1 h2
  have hes':∀ x ∈ es++r.map (fun x=>(j,x)),x.1 < j + 1∨n≤x.1:=fun x hx=>by
   rcases List.mem_append.1 hx with hx | hx
   · have:=hes x hx;omega
   · obtain ⟨y,_,rfl⟩:=List.mem_map.1 hx;exact .inl (Nat.lt_succ_self _)
  by_cases hij:i=j
  · subst hij
    obtain ⟨_,l,hl⟩:=hc.le
    refine ⟨sl,r,xt,hs,fun x hx=>?_,fun x hx=>?_,fun x hx=>?_,fun x hx'=>?_⟩
    · rw [hl];simp only [List.mem_append,List.mem_map];exact .inl (.inr ⟨x,hx,rfl⟩)
    · rcases hc.idx _ hx with h | h
      · rcases List.mem_append.1 h with h | h
        · have:=hes _ h;simp at this;omega
        · obtain ⟨y,hy,he⟩:=List.mem_map.1 h
          injection he with _ he
          exact he▸hy
      · simp at h;omega
    · obtain ⟨d,hd,hm,hk⟩:=hsl x hx
      exact ⟨d,hd,by rw [hl];simp only [List.mem_append];exact .inl (.inl hm),hk⟩
    · obtain ⟨d,q,hm,hk⟩:=hx x hx'
      exact ⟨d,q,by rw [hl];simp only [List.mem_append];exact .inl (.inl hm),hk⟩
  · exact ih hes' i (by omega) h2
end
def extB (n:Nat) (b:Nat→Bool):Nat→Bool:=fun j=>b j || Nat.ble n j
theorem extB_lt {n:Nat} {b:Nat→Bool} {j:Nat} (h:j < n):extB n b j=b j:=by
 unfold extB
 have:Nat.ble n j=false:=by
  cases hb:Nat.ble n j with
  | false=>rfl
  | true=>have:=Nat.le_of_ble_eq_true hb;omega
 rw [this,Bool.or_false]
theorem extB_ge {n:Nat} {b:Nat→Bool} {j:Nat} (h:n≤j):extB n b j=true:=by
 unfold extB
 rw [Nat.ble_eq_true_of_le h,Bool.or_true]
theorem extB_upd {n:Nat} {b:Nat→Bool} {i:Nat}:extB n (upd b i)=upd (extB n b) i:=by
 funext j
 unfold extB upd
 cases hji:Nat.beq j i with
 | true=>rfl
 | false=>rfl
theorem look_nd {fs:List (Nat×Nat×PV)} (hnd:(fs.map (·.2.1)).Nodup) {i t:Nat} {p:PV} (h:(i,t,p) ∈ fs):(fs.map (·.2)).lookup t=some p:=by
 induction fs with
 | nil=>cases h
 | cons a r ih=>
  rw [List.map_cons,List.nodup_cons] at hnd
  rw [List.map_cons,List.lookup_cons]
  rcases List.mem_cons.1 h with h | h
  · subst h;simp
  · have hne:¬ t=a.2.1:=fun e=>hnd.1 (e▸List.mem_map.2 ⟨_,h,rfl⟩)
    have:(t == a.2.1)=false:=by simpa using hne
    rw [this]
    exact ih hnd.2 h
theorem alive_all {kl:List (Nat×Nat)} {b:Nat→Bool} {fs:List (Nat×Nat×PV)} {base:List (Nat×PV)} (hnd:(fs.map (·.2.1)).Nodup) (hfi:∀ x ∈ fs,b x.1=true) (t:Nat) (p:PV) (h:((fs.filter fun x=>(kl.lookup x.1).isNone).map (·.2)++base).lookup t=some p) (hdis:∀ x ∈ base,x.1 ∉ fs.map (·.2.1)):(mkK kl b fs++base).lookup t=some p:=by
 rw [lookup_append] at h ⊢
 cases hl:((fs.filter fun x=>(kl.lookup x.1).isNone).map (·.2)).lookup t with
 | some q=>
  rw [hl] at h
  have hqp:q=p:=by simpa using h
  subst hqp
  obtain ⟨⟨i,y⟩,h1,h2⟩:=List.mem_map.1 (lookup_mem' _ _ _ hl)
  obtain ⟨h3,h4⟩:=List.mem_filter.1 h1
  replace h2:y=(t,q):=h2
  subst h2
  have hlt:b i=true:=hfi _ h3
  have hal:alive kl b i=true:=by
   unfold alive
   replace h4:(kl.lookup i).isNone=true:=h4
   rw [Option.isNone_iff_eq_none] at h4
   rw [hlt,h4];rfl
  rw [mkK_lookup hnd h3,hal];rfl
 | none=>
  rw [hl] at h
  have hb:base.lookup t=some p:=by simpa using h
  rw [mkK_none (hdis _ (lookup_mem' _ _ _ hb)),hb];rfl
theorem G_confQ {K:Ctx} {id:Nat} {ops:Array Oper} {Q:Exit→GS→Prop} {s:GS} {M:(Nat→Bool)→List (List PV)} {base:List (Nat×PV)} {fs0 fs:List (Nat×Nat×PV)} {kl:List (Nat×Nat)} {memE:List (List PV)} (L n kk:Nat) (hn:ops.size=n) (hLn:L + 1=n) (hm:K.P.follows .mixedOrders=true)
 (hs:Le K s ⟨fs0.map (·.2)++base,M noB⟩) (hc:ConfQ L n kl K ops M base 0 fs0 fs) (hf0:∀ x ∈ fs0,n≤x.1) (hnd:(fs.map (·.2.1)).Nodup) (hdis:∀ x ∈ base,x.1 ∉ fs.map (·.2.1)) (hdep:∀ i,i < ops.size→∀ d ∈ depsOf ops i,d < i)
 (hanc:∀ i,i < L→i ∈ ancs ops kk (depsOf ops L)) (hM:∀ b:Nat→Bool,(∀ i,i < L→b i=true)→M b=memE)
 (hq:GOps K ops (fun e s'=>e=.normal∧Q .normal s') [L] ⟨(fs.filter fun x=>(kl.lookup x.1).isNone).map (·.2)++base,memE⟩):G K (.region id ops true) Q s:=by
 subst hn
 have hbl:∀ {t p},(base.lookup t)=some p→t ∉ fs.map (·.2.1):=fun h=>hdis _ (lookup_mem' _ _ _ h)
 have hfi:∀ x ∈ fs,x ∈ fs0∨x.1 < L:=fun x hx=>by
  rcases hc.idx x hx with h | h
  · exact .inl h
  · exact .inr h.2
 have hup:∀ (b:Nat→Bool) (i j:Nat),¬ j=i→upd b i j=b j:=fun b i j hj=>by
  unfold upd
  rw [beq_no hj];rfl
 have huL:∀ b:Nat→Bool,upd b L L=true:=fun b=>by
  unfold upd
  rw [beq_yes];rfl
 have hancb:∀ b:Nat→Bool,Valid ops b→(∀ j ∈ depsOf ops L,b j=true)→∀ i,i < L→b i=true:=fun b hv hd i hi=>ancs_of hv kk _ hd i (hanc i hi)
 refine G_confT (fun b s=>(b L=true→∃ s',Le K s s'∧Q .normal s')∧(b L=false→Le K s ⟨mkK kl (extB ops.size b) fs++base,M b⟩)) hm hdep hs ⟨(fun h=>by cases h),(fun _=>?_)⟩ (fun i hi b hbi hbd hv s hT=>?_) (fun s hT=>?_)
 · refine Le_slots rfl fun t p hp=>?_
   simp only [GS.get,lookup_append] at hp ⊢
   by_cases ht:t ∈ fs.map (·.2.1)
   · obtain ⟨⟨j,t',p'⟩,hx,rfl⟩:=List.mem_map.1 ht
     rw [mkK_lookup hnd hx] at hp
     rcases hfi _ hx with h0 | h0
     · cases hal:alive kl (extB ops.size noB) j with
       | false=>
        rw [hal] at hp
        right
        have:PV.undef=p:=by simpa using hp
        exact this.symm
       | true=>
        rw [hal] at hp
        have hpp:p'=p:=by simpa using hp
        subst hpp
        left
        have hnd0:(fs0.map (·.2.1)).Nodup:=by
         obtain ⟨_,l,hl⟩:=hc.le
         rw [hl,List.map_append] at hnd
         exact (List.nodup_append.1 hnd).1
        rw [look_nd hnd0 h0];rfl
     · have hal:alive kl (extB ops.size noB) j=false:=by
        unfold alive
        rw [extB_lt (show j < ops.size by replace h0:j < L:=h0;omega)];rfl
       rw [hal] at hp
       right
       have:PV.undef=p:=by simpa using hp
       exact this.symm
   · rw [mkK_none ht] at hp
     have hn0:(fs0.map (·.2)).lookup t=none:=by
      cases h1:(fs0.map (·.2)).lookup t with
      | none=>rfl
      | some q=>
       exfalso
       obtain ⟨y,hy,hye⟩:=List.mem_map.1 (lookup_mem' _ _ _ h1)
       obtain ⟨_,l,hl⟩:=hc.le
       refine ht (List.mem_map.2 ⟨y,by rw [hl];exact List.mem_append_left _ hy,?_⟩)
       rw [hye]
     rw [hn0]
     left;simpa using hp
 · by_cases hiL:i=L
   · subst hiL
     have hall:=hancb b hv hbd
     have hle:=hT.2 hbi
     rw [hM b hall] at hle
     have hle2:Le K ⟨mkK kl (extB ops.size b) fs++base,memE⟩ ⟨(fs.filter fun x=>(kl.lookup x.1).isNone).map (·.2)++base,memE⟩:=Le_slots rfl fun t p hp=>.inl (alive_all hnd (fun x hx=>by
      rcases hfi x hx with h | h
      · exact extB_ge (hf0 x h)
      · rw [extB_lt (by omega)];exact hall _ h) t p hp hdis)
     refine GOps_mono1 (GOps_le hle (GOps_le hle2 hq)) ?_
     rintro e s' ⟨he,hqq⟩
     exact ⟨he,s',Le.refl _ _,fun _=>⟨s',Le.refl _ _,hqq⟩,fun h=>by rw [huL] at h;cases h⟩
   · have hilt:i < L:=by omega
     have hbL:b L=false:=by
      cases h:b L with
      | false=>rfl
      | true=>
       have:=hancb b hv (fun j hj=>hv L h j hj) i hilt
       rw [hbi] at this;cases this
     have hle:=hT.2 hbL
     obtain ⟨sl,r,xt,hst,hr1,hr2,hsl,hxt⟩:=hc.at (by omega) (fun x hx=>.inr (hf0 x hx)) i (Nat.zero_le _) hilt
     have hei:extB ops.size b i=false:=by rw [extB_lt hi];exact hbi
     have hsl2:∀ x ∈ sl,∃ d ∈ depsOf ops i++(fs.map (·.1)).filter (fun d=>decide (ops.size≤d)),(d,x) ∈ fs∧alive kl (extB ops.size b) d=true:=fun x hx=>by
      obtain ⟨d,hd,hmem,hk⟩:=hsl x hx
      refine ⟨d,?_,hmem,alive_of ?_ hei hk⟩
      · rcases hd with hd | hd
        · exact List.mem_append_left _ hd
        · exact List.mem_append_right _ (List.mem_filter.2 ⟨List.mem_map.2 ⟨_,hmem,rfl⟩,decide_eq_true hd⟩)
      · rcases hd with hd | hd
        · rw [extB_lt (by have:=hdep i hi d hd;omega)];exact hbd d hd
        · exact extB_ge hd
     have hbd2:∀ j ∈ depsOf ops i++(fs.map (·.1)).filter (fun d=>decide (ops.size≤d)),extB ops.size b j=true:=fun j hj=>by
      rcases List.mem_append.1 hj with hj | hj
      · rw [extB_lt (by have:=hdep i hi j hj;omega)];exact hbd j hj
      · exact extB_ge (oR (List.mem_filter.1 hj).2)
     have h1:=GOps_le hle (GOps_le (tab_in hnd hbl hei hbd2 hsl2) (hst b (mkK kl (extB ops.size b) fs) hbi hbd hv))
     refine GOps_mono1 h1 ?_
     rintro e s' ⟨he,rfl⟩
     have hout:=tab_out (K:=K) (mem:=M (upd b i)) hnd hbl hbd2 hr1 hr2 hsl2 hxt
     rw [← extB_upd] at hout
     refine ⟨he,_,hout,fun h=>?_,fun _=>Le.refl _ _⟩
     rw [hup b i L (fun e=>hiL e.symm),hbL] at h;cases h
 · exact hT.1 (show Nat.blt L ops.size=true by rw [Nat.blt_eq];omega)
def COy (L n:Nat) (kl:List (Nat×Nat)) (K:Ctx) (fr:List Fr) (ops:Array Oper) (base:List (Nat×PV)) (ws:List Nat) (ms:List (List (List PV))) (i:Nat) (es:List (Nat×Nat×PV)) (Q:Exit→GS→Prop):Prop:=
 ∃ fs,ConfQ L n kl K ops (fun b=>ms.getD (ws.countP b) []) base i es fs∧(fs.map (·.2.1)).Nodup∧(∀ x ∈ base,x.1 ∉ fs.map (·.2.1))∧∃ mem:List (List PV),ms[ws.length]? = some mem∧ws.all (fun w=>Nat.blt w L)=true∧GOps K ops (fun e s'=>e=.normal∧GF K fr (.leave .normal) Q s') [L] ⟨(fs.filter fun x=>(kl.lookup x.1).isNone).map (·.2)++base,mem⟩
def seeY (n:Nat) (kl:List (Nat×Nat)) (ops:List Oper) (i:Nat) (es:List (Nat×Nat×PV)) (base:List (Nat×PV)):Option (List (Nat×PV)):=opK ops i fun o=>dpK o.after.toList fun ds=>pickK ((n :: ds).filter (klOk kl i)) es fun l=>appK l base some
theorem seeY_of {n:Nat} {kl:List (Nat×Nat)} {ops:Array Oper} {i:Nat} {es:List (Nat×Nat×PV)} {base pre:List (Nat×PV)} (h:seeY n kl ops.toList i es base=some pre):pre=pick es ((n :: depsOf ops i).filter (klOk kl i))++base:=by
 obtain ⟨o,ho,h⟩:=opK_of h
 have hoi:ops[i]? = some o:=by rw [nth_eq] at ho;rw [← ho];simp
 have h1:=pickK_of _ (dpK_of h)
 rw [appK_eq] at h1
 injection h1 with h1
 unfold depsOf
 rw [hoi]
 exact h1.symm
theorem cy_step {L n:Nat} {kl:List (Nat×Nat)} {K:Ctx} {fr:List Fr} {ops:Array Oper} {base:List (Nat×PV)} {ws:List Nat} {ms:List (List (List PV))} {i:Nat} {es es':List (Nat×Nat×PV)} {Q:Exit→GS→Prop} {r xt:List (Nat×PV)}
 (h:∀ (b:Nat→Bool) (rest:List (Nat×PV)),b i=false→(∀ j ∈ depsOf ops i,b j=true)→Valid ops b→GOps K ops (fun e s'=>e=.normal∧s'=⟨r++(xt++(pick es ((n :: depsOf ops i).filter (klOk kl i))++base++rest)),ms.getD (ws.countP (upd b i)) []⟩) [i] ⟨pick es ((n :: depsOf ops i).filter (klOk kl i))++base++rest,ms.getD (ws.countP b) []⟩)
 (hc:COy L n kl K fr ops base ws ms (i + 1) es' Q) (hes:es++r.map (fun x=>(i,x))=es')
 (hx:(xt.all fun y=>es.any fun e=>Nat.beq e.2.1 y.1 && (match kl.lookup e.1 with | some m=>Nat.beq m i | none=>false))=true):COy L n kl K fr ops base ws ms i es Q:=by
 subst hes
 obtain ⟨fs,h1,h2⟩:=hc
 refine ⟨fs,.step (sl:=pick es ((n :: depsOf ops i).filter (klOk kl i))) (r:=r) (xt:=xt) (fun b rest g1 g2 g3=>h b rest g1 g2 g3) (fun x hx=>?_) (fun x hx'=>?_) h1,h2⟩
 · obtain ⟨d,g1,g2⟩:=pick_mem hx
   obtain ⟨g3,g4⟩:=List.mem_filter.1 g1
   refine ⟨d,?_,g2,?_⟩
   · rcases List.mem_cons.1 g3 with g3 | g3
     · exact .inr (Nat.le_of_eq g3.symm)
     · exact .inl g3
   · unfold klOk at g4
     cases hk:kl.lookup d with
     | none=>exact .inl rfl
     | some m=>
      rw [hk] at g4
      exact .inr (by rw [Nat.eq_of_beq_eq_true g4])
 · have g1:=List.all_eq_true.1 hx x hx'
   obtain ⟨⟨d,t,q⟩,g2,g3⟩:=List.any_eq_true.1 g1
   rw [Bool.and_eq_true] at g3
   obtain ⟨g3,g4⟩:=g3
   have hte:t=x.1:=Nat.eq_of_beq_eq_true g3
   subst hte
   refine ⟨d,q,g2,?_⟩
   cases hk:kl.lookup d with
   | none=>simp only [hk] at g4;cases g4
   | some m=>
    simp only [hk] at g4
    rw [Nat.eq_of_beq_eq_true g4]
section
variable {L n:Nat} {kl:List (Nat×Nat)} {K:Ctx} {fr:List Fr} {ops:Array Oper} {base pre:List (Nat×PV)} {ws:List Nat} {ms:List (List (List PV))} {mem mem':List (List PV)} {i j t u:Nat} {es es':List (Nat×Nat×PV)} {Q:Exit→GS→Prop} {p q:PV}
theorem yAny (hs:seeY n kl ops.toList i es base=some pre) (hj:nth nums (i + 1)=some j) (hes:snocK es (i,t,p) some=some es') (hi:memN i ws=false)
 (hc:COy L n kl K fr ops base ws ms j es' Q) (hstep:∀ (rest:List (Nat×PV)) (X:List (List PV)) (Q':Exit→GS→Prop),GF K [] (.ops ops []) Q' ⟨(t,p) :: (pre++rest),X⟩→GF K [] (.ops ops [i]) Q' ⟨pre++rest,X⟩):COy L n kl K fr ops base ws ms i es Q:=by
 have hpre:=seeY_of hs
 subst hpre
 have hj:=numj hj
 rw [snocK_eq] at hes
 injection hes with hes
 subst hj;subst hes
 have hin:i ∉ ws:=fun h=>by rw [memN_iff.2 h] at hi;cases hi
 exact cy_step (r:=[(t,p)]) (xt:=[]) (fun b rest _ _ _=>by rw [countP_upd hin];exact ofO (fr:=[]) (hstep rest _ (fun e s'=>e=.normal∧s'=⟨(t,p) :: (pick es ((n :: depsOf ops i).filter (klOk kl i))++base++rest),ms.getD (ws.countP b) []⟩) (toO (fr:=[]) (gN ⟨rfl,rfl⟩)))) hc rfl rfl
theorem yTake (hs:seeY n kl ops.toList i es base=some pre) (hj:nth nums (i + 1)=some j) (hes:snocK es (i,t,p) some=some es') (hi:memN i ws=false) (hx:tkB kl es u i=true)
 (hc:COy L n kl K fr ops base ws ms j es' Q) (hstep:∀ (rest:List (Nat×PV)) (X:List (List PV)) (Q':Exit→GS→Prop),GF K [] (.ops ops []) Q' ⟨(t,p) :: (u,q) :: (pre++rest),X⟩→GF K [] (.ops ops [i]) Q' ⟨pre++rest,X⟩):COy L n kl K fr ops base ws ms i es Q:=by
 have hpre:=seeY_of hs
 subst hpre
 have hj:=numj hj
 rw [snocK_eq] at hes
 injection hes with hes
 subst hj;subst hes
 have hin:i ∉ ws:=fun h=>by rw [memN_iff.2 h] at hi;cases hi
 exact cy_step (r:=[(t,p)]) (xt:=[(u,q)]) (fun b rest _ _ _=>by rw [countP_upd hin];exact ofO (fr:=[]) (hstep rest _ (fun e s'=>e=.normal∧s'=⟨(t,p) :: (u,q) :: (pick es ((n :: depsOf ops i).filter (klOk kl i))++base++rest),ms.getD (ws.countP b) []⟩) (toO (fr:=[]) (gN ⟨rfl,rfl⟩)))) hc rfl (tkB_x hx)
theorem yEnd {sl:List (Nat×PV)} {s2:GS} (hi:Nat.beq i L=true) (hp:(es.filter fun x=>(kl.lookup x.1).isNone).map (·.2)++base=sl) (hS:ws.all (fun w=>Nat.blt w L)=true) (hm:ms[ws.length]? = some mem)
 (hstep:∀ Q':Exit→GS→Prop,GF K [] (.ops ops []) Q' s2→GF K [] (.ops ops [L]) Q' ⟨sl,mem⟩) (h:GF K fr (.leave .normal) Q s2)
 (hn:nodupB (es.map (·.2.1))=true) (hb:base.all (fun x=>!(es.map (·.2.1)).contains x.1)=true):COy L n kl K fr ops base ws ms i es Q:=by
 subst hp
 refine ⟨es,.done (Nat.eq_of_beq_eq_true hi),nodupB_iff hn,fun x hx hm=>?_,mem,hm,hS,?_⟩
 · have:=List.all_eq_true.1 hb x hx
   simp only [Bool.not_eq_true',List.contains_eq_mem,decide_eq_false_iff_not] at this
   exact this hm
 · exact ofO (fr:=[]) (hstep _ (toO (fr:=[]) (gN ⟨rfl,h⟩)))
end
theorem gOpenY (L kk:Nat) (kl:List (Nat×Nat)) (ws:List Nat) (ms:List (List (List PV))) (ts:List Nat) {n:Nat} {K:Ctx} {fr:List Fr} {id:Nat} {ops:Array Oper} {sl base:List (Nat×PV)} {es0:List (Nat×Nat×PV)} {mem:List (List PV)} {Q:Exit→GS→Prop} (hn:sizeIs ops.toList n=true) (hL:Nat.beq (L + 1) n=true)
 (hb:(sl.filter fun x=>!ts.contains x.1)=base) (he:es0.all (fun e=>Nat.ble n e.1 && (match sl.lookup e.2.1 with | some _=>true | none=>false))=true) (he2:∀ e ∈ es0,sl.lookup e.2.1=some e.2.2) (hm:K.P.follows .mixedOrders=true) (hm0:ms.head? = some mem)
 (hdep:((List.range ops.size).all fun i=>(depsOf ops i).all fun d=>Nat.blt d i)=true) (hanc:((List.range L).all fun i=>memN i (ancs ops kk (depsOf ops L)))=true) (h:COy L n kl K fr ops base ws ms 0 es0 Q):GF K fr (.code (.region id ops true)) Q ⟨sl,mem⟩:=by
 have hsz:ops.size=n:=by rw [← sizeIs_of _ _ hn];exact Array.length_toList.symm
 obtain ⟨fs,hc,hnd,hdis,memE,hme,hws,hq⟩:=h
 refine toC ?_
 refine G_confQ (Q:=unf K Q fr) (M:=fun b=>ms.getD (ws.countP b) []) (fs0:=es0) (memE:=memE) L n kk hsz (Nat.eq_of_beq_eq_true hL) hm ?_ hc (fun x hx=>?_) hnd hdis (fun i hi d hd=>?_) (fun i hi=>?_) (fun b hball=>?_) ?_
 · have hz:ws.countP noB=0:=List.countP_eq_zero.2 fun _ _ h=>by cases h
   refine Le_slots ?_ fun t p hp=>.inl ?_
   · show ms.getD (ws.countP noB) []=mem
     rw [hz]
     cases ms with
     | nil=>cases hm0
     | cons a r=>simp at hm0;subst hm0;rfl
   · simp only [GS.get,lookup_append] at hp ⊢
     cases h1:(es0.map (·.2)).lookup t with
     | some q=>
      rw [h1] at hp
      have hqp:q=p:=by simpa using hp
      subst hqp
      obtain ⟨y,hy,hye⟩:=List.mem_map.1 (lookup_mem' _ _ _ h1)
      have:=he2 y hy
      rw [hye] at this
      exact this
     | none=>
      rw [h1] at hp
      have hp':base.lookup t=some p:=by simpa using hp
      subst hb
      exact filter_lookup (fun k=>!ts.contains k) _ t p hp'
 · have:=List.all_eq_true.1 he x hx
   rw [Bool.and_eq_true] at this
   exact Nat.le_of_ble_eq_true this.1
 · exact blt_of (List.all_eq_true.1 (List.all_eq_true.1 hdep i (List.mem_range.2 hi)) d hd)
 · exact memN_of (List.all_eq_true.1 hanc i (List.mem_range.2 hi))
 · have h2:ws.countP b=ws.length:=List.countP_eq_length.2 fun w hw=>hball w (blt_of (List.all_eq_true.1 hws w hw))
   show ms.getD (ws.countP b) []=memE
   rw [h2,List.getD_eq_getElem?_getD,hme];rfl
 · exact GOps_mono1 hq (fun e s' ⟨h1,h2⟩=>⟨h1,h2⟩)
end Go.Proofs.YtoonleefemkalaaDoor.E
