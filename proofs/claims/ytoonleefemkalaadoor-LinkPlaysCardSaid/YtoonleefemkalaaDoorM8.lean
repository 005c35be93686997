import Derived.Test.YtoonleefemkalaaDoorM7
import Derived.MapKept
import Derived.Lib.ConvBytes
import Derived.Laws.Small
import Derived.Laws.AppendOwn
import Derived.Laws.RangeString
import Derived.WalkMore
import Derived.Recover
/- Contracts of functions. Conditions: none. -/
set_option linter.unusedSimpArgs false
set_option linter.unusedVariables false
namespace Go.Proofs.YtoonleefemkalaaDoor.E
open Go
section
def D.keyOf:TypeDesc→D→Bool
 | .int k,.int k' _=>decide (k'=k)
 | .string,.str _=>true
 | .bool,.bool _=>true
 | _,_=>false
theorem Y_makeMap {K:Ctx} {s:GS} {t:Nat} {ty rt:TypeId} {pos:String} {af:Array Edge} {g:Option (Nat×Bool)} (ht:t < K.n):
 Yld K ⟨some t,.makeMap ty none,rt,pos,af,g⟩ s ⟨(t,.mref s.mem.length) :: s.slots,s.mem++[[.mapc []]]⟩:=by
 rintro a w ⟨S,O,m,h⟩
 have he:=h.env
 have hE:Ext S w (w.alloc (.map #[] 0)):=ext_alloc S w _ he.slt
 have hsz0:K.w0.heap.size≤w.heap.size:=he.ext.size
 have hO:∀ (b:Nat) l t,O b=some (l,t)→(if b=w.heap.size then some ([s.mem.length,1],0) else O b)=some (l,t):=fun b l t hb=>by
  rw [if_neg (Nat.ne_of_lt (he.olt b l t hb))];exact hb
 have hmm:∀ (b r:Nat),m[b]? = some r→(m++[w.heap.size])[b]? = some r:=fun b r hb=>by rw [List.getElem?_append_left (lG hb)];exact hb
 refine ⟨.map (some w.heap.size),w.alloc (.map #[] 0),by simp [execOp,Instr.makeMap],S,fun b=>if b=w.heap.size then some ([s.mem.length,1],0) else O b,m++[w.heap.size],⟨he.ext.trans hE he.s0,fun b hb hO'=>?_,fun b l t o hb hO' hlt=>?_,he.s0,he.snew,fun b o l t hS hO'=>?_,fun b o hS=>?_,fun b l t hO'=>?_,fun b l t hO'=>?_,by simp [he.mlen],fun i cs r hi hr hne=>?_⟩,h.defers,by simp [Act.put,h.size],h.pre.trans (List.prefix_append _ _),fun i p hi=>?_⟩
 · rw [heap_alloc_old' _ _ _ (by omega)];exact he.old b hb hO'
 · rw [World.cell?_alloc_lt w _ ⟨b,o,none⟩ (show b < w.heap.size by omega)];exact he.part b l t o hb hO' hlt
 · have:=he.slt b o hS;rw [if_neg (Nat.ne_of_lt this)] at hO';exact he.sown b o l t hS hO'
 · have:=he.slt b o hS;simp;omega
 · by_cases hb:b=w.heap.size
   · subst hb;simp
   · rw [if_neg hb] at hO';have:=he.olt b l t hO';simp;omega
 · by_cases hb:b=w.heap.size
   · exact .inl (by omega)
   · rw [if_neg hb] at hO';exact he.onew b l t hO'
 · by_cases hi':i < s.mem.length
   · rw [List.getElem?_append_left hi'] at hi
     rw [List.getElem?_append_left (by rw [he.mlen];exact hi')] at hr
     obtain ⟨g1,g2⟩:=he.mem i cs r hi hr hne
     exact ⟨hO _ _ _ g1,g2.frame (heap_alloc_old' _ _ _ (he.olt _ _ _ g1)) hE (fun _ _ h=>h) (fun j b t q hb=>hO b _ t hb) hmm⟩
   · have hil:i=s.mem.length:=by
      have:=(lG hi);simp at this;omega
     subst hil
     rw [List.getElem?_append_right (Nat.le_refl _)] at hi
     rw [← he.mlen,List.getElem?_append_right (Nat.le_refl _)] at hr
     simp only [Nat.sub_self,List.getElem?_cons_zero,Option.some.injEq] at hi hr
     subst hi;subst hr
     exact ⟨by simp,.inr (.inl ⟨[],#[],0,rfl,heap_alloc_new' w _,fun i e h=>(by simp at h),fun x h=>(by cases h),fun i e x h=>(by simp at h)⟩)⟩
 · rw [getD_put _ _ _ _ (by rw [h.size];exact ht)]
   have hi':(s.set t (.mref s.mem.length)).get i=some p:=hi
   rw [GS.get_set] at hi'
   by_cases hit:i=t
   · rw [if_pos hit] at hi' ⊢;injection hi' with hi';subst hi'
     exact .mref _ _ _ (by rw [← he.mlen];simp)
   · rw [if_neg hit] at hi' ⊢
     exact (h.slots i p hi').ext hE (fun _ _ h=>h) (fun b t q hb=>hO b _ t hb) hmm
theorem ext_setMap {S:Reg} {w:World} {r:Nat} {es es':Array MapEntry} {c c':Nat} (hh:w.heap[r]? = some (.map es c)) (hS:∀ o,¬ S r o):Ext S w { w with heap:=w.heap.setIfInBounds r (.map es' c') } where
 size:=by simp
 shape:=fun b us el fz hb=>by
  have hbr:b ≠ r:=by rintro rfl;rw [hh] at hb;injection hb with hb;cases hb
  exact ⟨us,by rw [(MapKept.heap_set hh).2 b hbr];exact hb,rfl⟩
 cell:=fun b o hb=>by
  have hbr:b ≠ r:=by rintro rfl;exact hS o hb
  simp only [World.cell?,(MapKept.heap_set (o':=.map es' c') hh).2 b hbr]
 maps:=fun b es0 c0 hb hm=>by
  have hbr:b ≠ r:=by rintro rfl;exact hS 0 hb
  rw [(MapKept.heap_set (o':=.map es' c') hh).2 b hbr];exact hm
def zeroD (z:Value):Option D:=match z with
 | .agg _=>(PV.toDs (zeros z)).map .agg
 | v=>(ofConst v).toD
theorem zeroD_rd {z:Value} {d:D} (h:zeroD z=some d) (h1:z.cells.all (·.oneCell')=true) (w:World) (S:Reg):Rd w S d z:=by
 unfold zeroD at h
 split at h
 · rename_i cs
   cases hz:PV.toDs (zeros (.agg cs)) with
   | none=>rw [hz] at h;cases h
   | some ds=>
    rw [hz] at h
    injection h with h
    subst h
    obtain ⟨g1,g2⟩:=PV.toDs_get _ _ hz
    have hcl:(Value.agg cs).cells=cs:=rfl
    refine .agg ds cs (by rw [g1];simp [zeros,hcl]) (fun i v hv=>?_) (fun i d v hd hv=>?_)
    · have:=Array.all_eq_true_iff_forall_mem.1 h1 v (by rw [hcl];exact Array.mem_of_getElem? hv);exact this
    · obtain ⟨p,hp,hpd⟩:=g2 i d hd
      simp only [zeros,hcl,List.getElem?_map] at hp
      rw [show cs.toList[i]? = some v by simpa using hv] at hp
      simp only [Option.map_some,Option.some.injEq] at hp
      subst hp
      exact (ofConst_rp w S noOwns [] [] v).toD d hpd
 · exact (ofConst_rp w S noOwns [] [] z).toD d h
end
section
def D.nilB:D→Option Bool
 | .nilS=>some true
 | .sl (_ :: _)=>some false
 | _=>none
variable {w:World} {ty e:TypeId}
theorem run_sl_nil {P:Program} (hu:P.underlying ty=some (.slice e)) (a:Option Addr) (n c:Nat):(Op.equal ty (.slice a n c) (.slice none 0 0)).run P w=.ok a.isNone w:=by
 rw [Op.equal,show Op.maxDepth=9999 + 1 from rfl,Op.equalIn]
 cases a<;>simp [run_underlying hu]
variable {K:Ctx} {s:GS} {t:Nat} {rt:TypeId} {x:Operand} {pos:String} {af:Array Edge} {g:Option (Nat×Bool)}
theorem Q_sleql {yt:TypeId} {d:D} {b:Bool}
 (hx:s.ev x=.d d) (hd:d.nilB=some b) (hu:K.P.underlying ty=some (.slice e)):Qy K ⟨some t,.binOp .eql ty x (.const (.slice none 0 0)) yt,rt,pos,af,g⟩ s t (.d (.bool b)):=by
 refine fun S O m a w h=>⟨.bool b,fun w _=>?_,.d _ _ _ (.bool _)⟩
 have hr:=h.evd hx
 generalize hv:a.eval x=v at hr
 have hc:a.eval (.const (.slice none 0 0))=.slice none 0 0:=rfl
 simp only [execOp,hv,hc]
 cases hr with
 | nilS=>simp [D.nilB] at hd;subst hd;simp [eqGuard,binOp,run_sl_nil hu]
 | sl xs ad cap k _ _ _ hn _ _=>
  cases xs with
  | nil=>simp [D.nilB] at hd
  | cons y ys=>
   simp [D.nilB] at hd;subst hd
   cases ad with
   | none=>have:=hn rfl;cases this
   | some ad=>simp [eqGuard,binOp,run_sl_nil hu]
 | _=>simp [D.nilB] at hd
variable {k:IntKind} {a:Int}
theorem Q_max {ty':TypeId} {y:Operand} {b:Int}
 (hx:s.ev x=.d (.int k a)) (hy:s.ev y=.d (.int k b)):Qy K ⟨some t,.call ⟨.builtin .max,#[x,y],#[ty,ty']⟩,rt,pos,af,g⟩ s t (.d (.int k (if b > a then b else a))):=by
 refine fun S O m ac w h=>⟨_,fun w _=>?_,.d _ _ _ (.int _ _)⟩
 have h1:=rd_int (h.evd hx)
 have h2:=rd_int (h.evd hy)
 simp [execOp,resolve,invoke,builtin,h1,h2,run_max_int2]
theorem Q_min {ty':TypeId} {y:Operand} {b:Int}
 (hx:s.ev x=.d (.int k a)) (hy:s.ev y=.d (.int k b)):Qy K ⟨some t,.call ⟨.builtin .min,#[x,y],#[ty,ty']⟩,rt,pos,af,g⟩ s t (.d (.int k (if b < a then b else a))):=by
 refine fun S O m ac w h=>⟨_,fun w _=>?_,.d _ _ _ (.int _ _)⟩
 have h1:=rd_int (h.evd hx)
 have h2:=rd_int (h.evd hy)
 simp [execOp,resolve,invoke,builtin,h1,h2,run_min_int2]
theorem Q_neg {r:Int}
 (hx:s.ev x=.d (.int k a)) (hr:k.wrap (0 - a)=r):Qy K ⟨some t,.unOp .neg ty x,rt,pos,af,g⟩ s t (.d (.int k r)):=by
 subst hr
 refine fun S O m ac w h=>⟨_,fun w _=>?_,.d _ _ _ (.int _ _)⟩
 have h1:=rd_int (h.evd hx)
 simp only [execOp,h1]
 simp [Op.unary,Op.intArith]
theorem Q_strh {hi:Operand} {b r:ByteArray} {j:Int}
 (hx:s.ev x=.d (.str b)) (hh:s.ev hi=.d (.int k j)) (hu:K.P.underlying ty=some .string) (h0:0≤j) (h1:j≤(b.size:Nat)) (hr:b.extract 0 j.toNat=r):
 Qy K ⟨some t,.slice ty x none (some hi) none,rt,pos,af,g⟩ s t (.d (.str r)):=by
 subst hr
 refine fun S O m ac w h=>⟨_,fun w _=>?_,.d _ _ _ (.str _)⟩
 have hb:=rd_str (h.evd hx)
 have hn:=rd_int (h.evd hh)
 simp only [execOp,Option.map_some,Option.map_none,hb,hn]
 simp only [Sem.run_bind,run_sliceAt_string w ty _ _ _ _ hu,run_slice_string_h w ty b hu k j h0 h1,Result.andThen_ok]
 rfl
theorem Q_strl {lo:Operand} {b r:ByteArray} {i:Int}
 (hx:s.ev x=.d (.str b)) (hl:s.ev lo=.d (.int k i)) (hu:K.P.underlying ty=some .string) (h0:0≤i) (h1:i≤(b.size:Nat)) (hr:b.extract i.toNat b.size=r):
 Qy K ⟨some t,.slice ty x (some lo) none none,rt,pos,af,g⟩ s t (.d (.str r)):=by
 subst hr
 refine fun S O m ac w h=>⟨_,fun w _=>?_,.d _ _ _ (.str _)⟩
 have hb:=rd_str (h.evd hx)
 have hn:=rd_int (h.evd hl)
 simp only [execOp,Option.map_some,Option.map_none,hb,hn]
 simp only [Sem.run_bind,run_sliceAt_string w ty _ _ _ _ hu,run_slice_string_l w ty b hu k i h0 h1,Result.andThen_ok]
 rfl
theorem ext_old {S:Reg} {w':World} (hsz:w.heap.size≤w'.heap.size) (hold:∀ b,b < w.heap.size→w'.heap[b]? = w.heap[b]?) (hS:∀ b o,S b o→b < w.heap.size) (h1:w'.os=w.os) (h2:w'.tape=w.tape) (h3:w'.output=w.output):Ext S w w' where
 size:=hsz
 shape:=fun b us e fz hb=>⟨us,by rw [hold b (Array.getElem?_eq_some_iff.1 hb).1];exact hb,rfl⟩
 cell:=fun b o hb=>by simp only [World.cell?,hold b (hS b o hb)]
 maps:=fun b es c hb hm=>by rw [hold b (hS b 0 hb)];exact hm
 os:=h1
 tape:=h2
 output:=h3
theorem Rep.settle {S:Reg} {O:Owns} {m:List Nat} {a:Act} {w':World} (h:Rep K S O m s a w) {t:Nat} (ht:t < K.n) {d:D} {v:Value}
 (hsz:w.heap.size≤w'.heap.size) (hold:∀ b,b < w.heap.size→w'.heap[b]? = w.heap[b]?) (h1:w'.os=w.os) (h2:w'.tape=w.tape) (h3:w'.output=w.output)
 (hrd:Rd w' (fun b o=>S b o∨(w.heap.size≤b∧b < w'.heap.size)) d v):At K (s.set t (.d d)) (a.put (some t) v) w':=by
 have he:=h.env
 have hE:Ext S w w':=ext_old hsz hold he.slt h1 h2 h3
 have hsz0:K.w0.heap.size≤w.heap.size:=he.ext.size
 have hr:Rep K (fun b o=>S b o∨(w.heap.size≤b∧b < w'.heap.size)) O m s a w':=by
  refine ⟨⟨he.ext.trans hE he.s0,fun b hb hO=>?_,fun b l t' o hb hO hot=>?_,fun b o h=>.inl (he.s0 b o h),fun b o hb=>?_,fun b o l t' hS hO=>?_,fun b o hS=>?_,fun b l t' hO=>?_,he.onew,he.mlen,fun i cs r hi hr hne'=>?_⟩,h.defers,h.size,h.pre,fun i q hq=>(h.slots i q hq).ext hE (fun _ _ h=>.inl h) (fun _ _ _ h=>h) (fun _ _ h=>h)⟩
  · rw [hold b (by omega)];exact he.old b hb hO
  · have:w'.cell? ⟨b,o,none⟩=w.cell? ⟨b,o,none⟩:=by simp only [World.cell?,hold b (show b < w.heap.size by omega)]
    rw [this];exact he.part b l t' o hb hO hot
  · rcases hb with hb | ⟨hb,_⟩
    · exact he.snew b o hb
    · exact .inr (.inl (by omega))
  · rcases hS with hS | ⟨hb,_⟩
    · exact he.sown b o l t' hS hO
    · have:=he.olt b l t' hO;omega
  · rcases hS with hS | ⟨_,hb⟩
    · have:=he.slt b o hS;omega
    · exact hb
  · have:=he.olt b l t' hO;omega
  · obtain ⟨g1,g2⟩:=he.mem i cs r hi hr hne'
    exact ⟨g1,g2.frame (hold r (he.olt _ _ _ g1)) hE (fun _ _ h=>.inl h) (fun _ _ _ _ h=>h) (fun _ _ h=>h)⟩
 exact ⟨_,_,_,hr.put ht (.d _ _ _ hrd)⟩
def bytesD (b:ByteArray):List D:=b.data.toList.map fun c=>.int .u8 c.toNat
theorem bytes_len (b:ByteArray):b.data.toList.length=b.size:=Array.length_toList
theorem bytesD_length (b:ByteArray):(bytesD b).length=b.size:=by unfold bytesD;rw [List.length_map,bytes_len]
theorem Y_strbytes {src dst:TypeId} {b:ByteArray} {u:TypeDesc}
 (hx:s.ev x=.d (.str b)) (hs:K.P.underlying src=some u) (hd:K.P.underlying dst=some (.slice e)) (he:K.P.underlying e=some (.int .u8)) (hlim:b.size≤lim) (ht:t < K.n):
 Yld K ⟨some t,.convert src dst x,rt,pos,af,g⟩ s (s.set t (.d (.sl (bytesD b)))):=by
 rintro a w ⟨S,O,m,h⟩
 have hb:=rd_str (h.evd hx)
 have hcap:b.size≤grownCap w b.size 0 e:=grownCap_ge ..
 refine ⟨.slice (some ⟨w.heap.size,0,none⟩) b.size (grownCap w b.size 0 e),Lib.bytesWorld w e b,?_,h.settle ht (by rw [Lib.bytesWorld_size];omega) (fun j hj=>Lib.bytesWorld_at_old w e b j hj) rfl rfl rfl ?_⟩
 · simp only [execOp,hb]
   simp [Lib.run_convert_string_bytes w src dst e b hs hd he]
 · rw [← bytesD_length b]
   refine .sl (bytesD b) _ _ 1 (by rw [bytesD_length];exact hcap) (by rw [bytesD_length];exact hlim) (fun x hx=>?_) (by simp) (fun ad had i x j y hi hj=>?_) (fun ad i x j y v had hi hj hv=>?_)
   · obtain ⟨c,_,rfl⟩:=List.mem_map.1 hx;rfl
   all_goals
    injection had with had
    subst had
    simp only [bytesD,List.getElem?_map,Option.map_eq_some_iff] at hi
    obtain ⟨c,hc,rfl⟩:=hi
    have hlt:i < b.size:=by have:=(lG hc);rwa [bytes_len] at this
    have hj0:j=0:=by
     cases j with
     | zero=>rfl
     | succ j=>simp [D.cells] at hj
    subst hj0
    simp [D.cells] at hj
    subst hj
    have hcell:=Lib.bytesWorld_cell w e b i hlt
    have hgd:b.data.toList.getD i 0=c:=by rw [List.getD_eq_getElem?_getD,hc];rfl
    rw [hgd] at hcell
   · exact ⟨rfl,.inr ⟨Nat.le_refl _,by show w.heap.size < _;rw [Lib.bytesWorld_size];omega⟩,_,by simpa using hcell,rfl⟩
   · have hv':(Lib.bytesWorld w e b).cell? ⟨w.heap.size,i,none⟩=some v:=by simpa using hv
     rw [hcell] at hv';injection hv' with hv';subst hv'
     exact .int _ _
end
section
theorem q_sleql {K:Ctx} {s:GS} {t:Nat} {ty yt rt e:TypeId} {x:Operand} {pos:String} {af:Array Edge} {g:Option (Nat×Bool)} {d:D} {b:Bool} (hu:K.P.underlying ty=some (.slice e)) (hx:s.ev x=.d d:=by exact J2) (hd:d.nilB=some b:=by rfl):
 Qy K ⟨some t,.binOp .eql ty x (.const (.slice none 0 0)) yt,rt,pos,af,g⟩ s t (.d (.bool b)):=Q_sleql hx hd hu
end
section
theorem g_sleqU {K:Ctx} {ops:Array Oper} {Q:Exit→GS→Prop} {s:GS} {i:Nat} {rest:List Nat} {t:Nat} {ty yt rt e:TypeId} {x:Operand} {pos:String} {af:Array Edge} {xs:List D} (hu:K.P.underlying ty=some (.slice e))
 (ho:ops[i]? = some ⟨some t,.binOp .eql ty x (.const (.slice none 0 0)) yt,rt,pos,af,none⟩) (h:∀ b,GOps K ops Q rest (s.set t (.d (.bool b)))) (hx:s.ev x=.d (.sl xs):=by exact J2) (ht:t < K.n:=by exact oR rfl):GOps K ops Q (i :: rest) s:=by
 intro a w ha
 obtain ⟨S,O,m,hr⟩:=ha
 have hv:=hr.evd hx
 have hb:∃ b,(execOp a.eval ⟨some t,.binOp .eql ty x (.const (.slice none 0 0)) yt,rt,pos,af,none⟩).run K.P w=.ok (.value (.bool b)) w:=by
  generalize hw:a.eval x=v at hv
  have hc:a.eval (.const (.slice none 0 0))=.slice none 0 0:=rfl
  simp only [execOp,hw,hc]
  cases hv with
  | sl xs ad cap k _ _ _ hn _ _=>exact ⟨ad.isNone,by cases ad<;>simp [eqGuard,binOp,run_sl_nil hu]⟩
 obtain ⟨b,hb⟩:=hb
 simp only [wpOps,ho,Region.wanted,if_true]
 refine .inl ?_
 simp only [Oper.wp,hb,Oper.upon_value]
 exact h b _ _ ⟨S,O,m,hr.put ht (.d _ _ _ (.bool _))⟩
end
section
theorem q_nilCheckR {K:Ctx} {s:GS} {t:Nat} {x:Operand} {ty:TypeId} {pos:String} {af:Array Edge} {g:Option (Nat×Bool)} {b o:Nat} (hx:s.ev x=.ref b o:=by exact J2):
 Qy K ⟨some t,.nilCheck x,ty,pos,af,g⟩ s t (.ref b o):=by
 refine fun S O m a w hr=>?_
 obtain ⟨l,h⟩:=hr.ev x
 rw [hx] at h
 generalize hv:a.eval x=v at h
 cases h with
 | ref _ _ _ r hm=>exact ⟨_,fun w _=>by simp only [execOp,hv];rfl,.ref _ _ _ r hm⟩
end
section
def alive (kl:List (Nat×Nat)) (b:Nat→Bool) (i:Nat):Bool:=b i && !(match kl.lookup i with | some j=>b j | none=>false)
def mkK (kl:List (Nat×Nat)) (b:Nat→Bool) (es:List (Nat×Nat×PV)):List (Nat×PV):=es.map fun x=>(x.2.1,cond (alive kl b x.1) x.2.2 .undef)
variable {kl:List (Nat×Nat)}
theorem mkK_lookup {b:Nat→Bool}:∀ {fs:List (Nat×Nat×PV)},(fs.map (·.2.1)).Nodup→∀ {i t:Nat} {p:PV},(i,t,p) ∈ fs→(mkK kl b fs).lookup t=some (cond (alive kl b i) p .undef)
 | [],_,_,_,_,h=>by cases h
 | x :: fs,hn,i,t,p,h=>by
  rw [List.map_cons,List.nodup_cons] at hn
  simp only [mkK,List.map_cons,List.lookup_cons]
  rcases List.mem_cons.1 h with rfl | h
  · simp
  · have hne:(t == x.2.1)=false:=by
     have:t ≠ x.2.1:=by rintro rfl;exact hn.1 (List.mem_map.2 ⟨_,h,rfl⟩)
     simpa using this
    rw [hne]
    exact mkK_lookup hn.2 h
theorem mkK_none {b:Nat→Bool}:∀ {fs:List (Nat×Nat×PV)} {t:Nat},t ∉ fs.map (·.2.1)→(mkK kl b fs).lookup t=none
 | [],_,_=>rfl
 | x :: fs,t,h=>by
  simp only [List.map_cons,List.mem_cons,not_or] at h
  have hne:(t == x.2.1)=false:=by simpa using h.1
  simp only [mkK,List.map_cons,List.lookup_cons,hne]
  exact mkK_none h.2
theorem alive_of {b:Nat→Bool} {d i:Nat} (h:b d=true) (hi:b i=false) (hk:kl.lookup d=none∨kl.lookup d=some i):alive kl b d=true:=by
 unfold alive
 rw [h]
 rcases hk with hk | hk<;>rw [hk]
 · rfl
 · show (true && !(b i))=true
   rw [hi];rfl
variable {fs:List (Nat×Nat×PV)} {base:List (Nat×PV)}
theorem alive_end {n:Nat} (hnd:(fs.map (·.2.1)).Nodup) (hfi:∀ x ∈ fs,x.1 < n) (t:Nat) (p:PV) (h:((fs.filter fun x=>(kl.lookup x.1).isNone).map (·.2)++base).lookup t=some p) (hdis:∀ x ∈ base,x.1 ∉ fs.map (·.2.1)):(mkK kl (allB n) fs++base).lookup t=some p:=by
 rw [lookup_append] at h ⊢
 cases hl:((fs.filter fun x=>(kl.lookup x.1).isNone).map (·.2)).lookup t with
 | some q=>
  rw [hl] at h
  have hqp:q=p:=by simpa using h
  subst hqp
  obtain ⟨⟨i,y⟩,h1,h2⟩:=List.mem_map.1 (lookup_mem' _ _ _ hl)
  obtain ⟨h3,h4⟩:=List.mem_filter.1 h1
  replace h2:y=(t,q):=h2
  subst h2
  have hlt:allB n i=true:=show Nat.blt i n=true by rw [Nat.blt_eq];exact hfi _ h3
  have hal:alive kl (allB n) i=true:=by
   unfold alive
   replace h4:(kl.lookup i).isNone=true:=h4
   rw [Option.isNone_iff_eq_none] at h4
   rw [hlt,h4];rfl
  rw [mkK_lookup hnd h3,hal];rfl
 | none=>
  rw [hl] at h
  have hb:base.lookup t=some p:=by simpa using h
  rw [mkK_none (hdis _ (lookup_mem' _ _ _ hb)),hb];rfl
def StpK (K:Ctx) (ops:Array Oper) (M:(Nat→Bool)→List (List PV)) (base:List (Nat×PV)) (i:Nat) (sl r x:List (Nat×PV)):Prop:=
 ∀ (b:Nat→Bool) (rest:List (Nat×PV)),b i=false→(∀ j ∈ depsOf ops i,b j=true)→Valid ops b→
  GOps K ops (fun e s'=>e=.normal∧s'=⟨r++(x++(sl++base++rest)),M (upd b i)⟩) [i] ⟨sl++base++rest,M b⟩
inductive ConfK (kl:List (Nat×Nat)) (K:Ctx) (ops:Array Oper) (M:(Nat→Bool)→List (List PV)) (base:List (Nat×PV)):Nat→List (Nat×Nat×PV)→List (Nat×Nat×PV)→Prop
 | done {i:Nat} {es:List (Nat×Nat×PV)}:i=ops.size→ConfK kl K ops M base i es es
 | step {i:Nat} {es fs:List (Nat×Nat×PV)} {sl r xt:List (Nat×PV)} (hs:StpK K ops M base i sl r xt) (hsl:∀ x ∈ sl,∃ d ∈ depsOf ops i,(d,x) ∈ es∧(kl.lookup d=none∨kl.lookup d=some i)) (hx:∀ x ∈ xt,∃ d q,(d,x.1,q) ∈ es∧kl.lookup d=some i) (hc:ConfK kl K ops M base (i + 1) (es++r.map fun x=>(i,x)) fs):ConfK kl K ops M base i es fs
variable {K:Ctx} {ops:Array Oper}
theorem ConfK.le {M:(Nat→Bool)→List (List PV)} {i:Nat} {es:List (Nat×Nat×PV)} (h:ConfK kl K ops M base i es fs):∃ later,fs=es++later:=by
 induction h with
 | done _=>exact ⟨[],by simp⟩
 | step _ _ _ _ ih=>obtain ⟨l,h⟩:=ih;exact ⟨_,by rw [h,List.append_assoc]⟩
theorem ConfK.idx {M:(Nat→Bool)→List (List PV)} {i0:Nat} {es:List (Nat×Nat×PV)} (h:ConfK kl K ops M base i0 es fs):∀ x ∈ fs,x ∈ es∨i0≤x.1:=by
 induction h with
 | done _=>exact fun x hx=>.inl hx
 | @step j es fs sl r xt hs hsl hx hc ih=>
  intro x hx
  rcases ih x hx with h | h
  · rcases List.mem_append.1 h with h | h
    · exact .inl h
    · obtain ⟨y,_,rfl⟩:=List.mem_map.1 h;exact .inr (Nat.le_refl _)
  · exact .inr (by omega)
theorem ConfK.at {M:(Nat→Bool)→List (List PV)} {i0:Nat} {es:List (Nat×Nat×PV)} (h:ConfK kl K ops M base i0 es fs) (hes:∀ x ∈ es,x.1 < i0):
 ∀ i,i0≤i→i < ops.size→∃ sl r xt,StpK K ops M base i sl r xt∧(∀ x ∈ r,(i,x) ∈ fs)∧(∀ x,(i,x) ∈ fs→x ∈ r)∧(∀ x ∈ sl,∃ d ∈ depsOf ops i,(d,x) ∈ fs∧(kl.lookup d=none∨kl.lookup d=some i))∧∀ x ∈ xt,∃ d q,(d,x.1,q) ∈ fs∧kl.lookup d=some i:=by
 induction h with
 | done h=>intro i h1 h2;omega
 | @step j es fs sl r xt hs hsl hx hc ih=>
  intro i h1 h2
  have hes':∀ x ∈ es++r.map (fun x=>(j,x)),x.1 < j + 1:=fun x hx=>by
   rcases List.mem_append.1 hx with hx | hx
   · have:=hes x hx;omega
   · obtain ⟨y,_,rfl⟩:=List.mem_map.1 hx;exact Nat.lt_succ_self _
  by_cases hij:i=j
  · subst hij
    obtain ⟨l,hl⟩:=hc.le
    refine ⟨sl,r,xt,hs,fun x hx=>?_,fun x hx=>?_,fun x hx=>?_,fun x hx'=>?_⟩
    · rw [hl];simp only [List.mem_append,List.mem_map];exact .inl (.inr ⟨x,hx,rfl⟩)
    · rcases hc.idx _ hx with h | h
      · rcases List.mem_append.1 h with h | h
        · have:=hes _ h;simp at this
        · obtain ⟨y,hy,he⟩:=List.mem_map.1 h
          injection he with _ he
          exact he▸hy
      · simp at h;omega
    · obtain ⟨d,hd,hm,hk⟩:=hsl x hx
      exact ⟨d,hd,by rw [hl];simp only [List.mem_append];exact .inl (.inl hm),hk⟩
    · obtain ⟨d,q,hm,hk⟩:=hx x hx'
      exact ⟨d,q,by rw [hl];simp only [List.mem_append];exact .inl (.inl hm),hk⟩
  · exact ih hes' i (by omega) h2
theorem G_confK {id:Nat} {Q:Exit→GS→Prop} {s s'':GS} {M:(Nat→Bool)→List (List PV)} (n:Nat) (hn:ops.size=n) (hm:K.P.follows .mixedOrders=true)
 (hs:Le K s ⟨base,M noB⟩) (hc:ConfK kl K ops M base 0 [] fs) (hnd:(fs.map (·.2.1)).Nodup) (hdis:∀ x ∈ base,x.1 ∉ fs.map (·.2.1)) (hdep:∀ i,i < n→∀ d ∈ depsOf ops i,d < i)
 (hs'':Le K ⟨mkK kl (allB n) fs++base,M (allB n)⟩ s'') (hfi:∀ x ∈ fs,x.1 < n) (hq:Q .normal s''):G K (.region id ops true) Q s:=by
 subst hn
 rintro a w ha
 obtain ⟨S,O,m,hr⟩:=hs a w ha
 have hd:=hr.drew
 refine wp_mono (Q:=endN K Q) (wp_region_any hm ?_) (fun e a' w' ⟨he,s',hq,hat⟩=>⟨s',he▸hq,hat⟩)
 have hbl:∀ {t p},(base.lookup t)=some p→t ∉ fs.map (·.2.1):=fun h=>hdis _ (lookup_mem' _ _ _ h)
 have key:∀ fuel (listed:Array Bool) a w,listed.size=ops.size→open_ listed=fuel→Valid ops (bOf listed)→At K ⟨mkK kl (bOf listed) fs++base,M (bOf listed)⟩ a w→wpAny K.P .any ops (endN K Q) fuel listed a w:=by
  intro fuel
  induction fuel with
  | zero=>
   intro listed a w hsz ho _ hat
   have hall:∀ i,i < ops.size→listed.getD i true=true:=fun i hi=>open_zero ho i (by omega)
   have hb:bOf listed=allB ops.size:=by
    funext j
    unfold bOf allB
    by_cases hj:j < ops.size
    · have:=hall j hj
      rw [Array.getD_eq_getD_getElem?,Array.getElem?_eq_getElem (by omega)] at this
      rw [Array.getD_eq_getD_getElem?,Array.getElem?_eq_getElem (by omega)]
      simp at this ⊢
      rw [this];exact (show Nat.blt j ops.size=true by rw [Nat.blt_eq];exact hj).symm
    · rw [Array.getD_eq_getD_getElem?,Array.getElem?_eq_none (by omega)]
      have:Nat.blt j ops.size=false:=by
       cases hb:Nat.blt j ops.size with
       | false=>rfl
       | true=>rw [Nat.blt_eq] at hb;omega
      rw [this];rfl
   refine ⟨?_,rfl,s'',hq,?_⟩
   · rw [List.eq_nil_iff_forall_not_mem]
     intro i hi
     obtain ⟨h1,o,ho,_⟩:=mem_ready.1 hi
     rw [hall i (Array.getElem?_eq_some_iff.1 ho).1] at h1;cases h1
   · rw [hb] at hat;exact hs'' a w hat
  | succ fuel ih=>
   intro listed a w hsz ho hv hat
   refine ⟨fun hr0=>?_,fun i hi=>?_⟩
   · exfalso
     -- the least one that is open is ready
     have hex:∃ i,i < ops.size∧listed.getD i true=false:=by
      refine Classical.byContradiction fun hne=>?_
      have:open_ listed=0:=by
       unfold open_
       rw [List.length_eq_zero_iff,List.filter_eq_nil_iff]
       intro x hx
       obtain ⟨i,hi,rfl⟩:=List.mem_iff_getElem.1 hx
       have hi':i < listed.size:=by simpa using hi
       have h1:¬ (listed.getD i true=false):=fun h=>hne ⟨i,by omega,h⟩
       rw [Array.getD_eq_getD_getElem?,Array.getElem?_eq_getElem hi'] at h1
       simpa using h1
      omega
     have hmin:∀ k i,i≤k→i < ops.size→listed.getD i true=false→∃ j,j < ops.size∧listed.getD j true=false∧∀ d,d < j→listed.getD d true=true:=by
      intro k
      induction k with
      | zero=>intro i h1 h2 h3;exact ⟨i,h2,h3,fun d hd=>by omega⟩
      | succ k ihk=>
       intro i h1 h2 h3
       by_cases hd:∃ d,d < i∧listed.getD d true=false
       · obtain ⟨d,h4,h5⟩:=hd;exact ihk d (by omega) (by omega) h5
       · exact ⟨i,h2,h3,fun d hd'=>by
          cases h:listed.getD d true with
          | true=>rfl
          | false=>exact absurd ⟨d,hd',h⟩ hd⟩
     obtain ⟨i,h2,h3⟩:=hex
     obtain ⟨j,hj1,hj2,hj3⟩:=hmin i i (Nat.le_refl _) h2 h3
     have:j ∈ Region.ready .any ops listed:=mem_ready.2 ⟨hj2,ops[j],Array.getElem?_eq_getElem hj1,fun e he hb=>by
      have hlt:=hdep j hj1 _ (depsOf_mem (Array.getElem?_eq_getElem hj1) he hb)
      have:=hj3 _ hlt
      rw [Array.getD_eq_getD_getElem?,Array.getElem?_eq_getElem (by omega)] at this ⊢
      simpa using this⟩
     rw [hr0] at this;cases this
   · obtain ⟨hi1,o,hoi,hi2⟩:=mem_ready.1 hi
     have hilt:i < ops.size:=(Array.getElem?_eq_some_iff.1 hoi).1
     have hbi:bOf listed i=false:=by
      unfold bOf
      rw [Array.getD_eq_getD_getElem?,Array.getElem?_eq_getElem (by omega)] at hi1 ⊢
      simpa using hi1
     have hbd:∀ j ∈ depsOf ops i,bOf listed j=true:=fun j hj=>by
      unfold depsOf at hj
      rw [hoi] at hj
      obtain ⟨e,he,rfl⟩:=List.mem_map.1 hj
      obtain ⟨he1,he2⟩:=List.mem_filter.1 he
      exact hi2 e (by simpa using he1) he2
     obtain ⟨sl,r,xt,hst,hr1,hr2,hsl,hxt⟩:=hc.at (fun x hx=>by cases hx) i (Nat.zero_le _) hilt
     have hle:Le K ⟨mkK kl (bOf listed) fs++base,M (bOf listed)⟩ ⟨sl++base++(mkK kl (bOf listed) fs),M (bOf listed)⟩:=Le_slots rfl fun t p hp=>by
      simp only [GS.get,lookup_append] at hp ⊢
      cases h1:sl.lookup t with
      | some q=>
       rw [h1] at hp
       have hqp:q=p:=by simpa using hp
       subst hqp
       obtain ⟨d,hd,hmem,hk⟩:=hsl _ (lookup_mem' _ _ _ h1)
       left
       rw [mkK_lookup hnd hmem,alive_of (hbd d hd) hbi hk];rfl
      | none=>
       rw [h1] at hp
       cases h2:base.lookup t with
       | some q=>
        rw [h2] at hp
        left
        rw [mkK_none (hbl h2)];simpa using hp
       | none=>
        rw [h2] at hp
        left
        have h3:(mkK kl (bOf listed) fs).lookup t=some p:=by simpa using hp
        rw [h3];rfl
     have h1:=hst (bOf listed) (mkK kl (bOf listed) fs) hbi hbd hv a w (hle a w hat)
     rw [wpOps_cons] at h1
     refine wpOp_to ?_ ?_ h1
     · rintro e a' w' hne' ⟨s',⟨he,_⟩,_⟩
       exact absurd he hne'
     · intro a' w' h2
       obtain ⟨s',⟨_,rfl⟩,hat'⟩:=(h2:∃ s',_∧_)
       have hset:=bOf_set (listed:=listed) (i:=i) (by omega)
       refine ih (listed.setIfInBounds i true) a' w' (by simpa using hsz) (by have:=open_set (listed:=listed) (i:=i) (by omega) hi1;omega) ?_ ?_
       · rw [hset]
         intro j hj d hdj
         unfold upd at hj ⊢
         cases hdi:Nat.beq d i with
         | true=>rfl
         | false=>
          simp only [cond_false]
          cases hji:Nat.beq j i with
          | true=>
           have:j=i:=Nat.eq_of_beq_eq_true hji
           subst this;exact hbd d hdj
          | false=>rw [hji] at hj;exact hv j (by simpa using hj) d hdj
       · rw [hset]
         refine Le_slots (s:=⟨r++(xt++(sl++base++mkK kl (bOf listed) fs)),M (upd (bOf listed) i)⟩) (s':=⟨mkK kl (upd (bOf listed) i) fs++base,M (upd (bOf listed) i)⟩) rfl (fun t p hp=>?_) a' w' hat'
         simp only [GS.get,lookup_append] at hp ⊢
         have hui:upd (bOf listed) i i=true:=by
          unfold upd
          rw [beq_yes];rfl
         have hun:∀ j,¬ j=i→upd (bOf listed) i j=bOf listed j:=fun j hj=>by
          unfold upd
          rw [beq_no hj];rfl
         by_cases ht:t ∈ fs.map (·.2.1)
         · obtain ⟨⟨j,t',p'⟩,hx,rfl⟩:=List.mem_map.1 ht
           rw [mkK_lookup hnd hx] at hp
           have hp':cond (alive kl (upd (bOf listed) i) j) p' PV.undef=p:=by simpa using hp
           cases hal:alive kl (upd (bOf listed) i) j with
           | false=>
            rw [hal] at hp'
            exact .inr hp'.symm
           | true=>
            rw [hal] at hp'
            have hpp:p'=p:=hp'
            subst hpp
            left
            unfold alive at hal
            rw [Bool.and_eq_true] at hal
            obtain ⟨hal1,hal2⟩:=hal
            have hnk:¬ kl.lookup j=some i:=fun h=>by rw [h] at hal2;simp only [hui] at hal2;cases hal2
            have hxn:xt.lookup t'=none:=by
             cases hxl:xt.lookup t' with
             | none=>rfl
             | some q=>
              exfalso
              obtain ⟨d,q',hm,hk⟩:=hxt _ (lookup_mem' _ _ _ hxl)
              have:=key_uniq hnd hm hx rfl
              injection this with h1 _
              subst h1
              exact hnk hk
            by_cases hji:j=i
            · subst hji
              obtain ⟨q,hq⟩:=lookup_isSome (hr2 _ hx)
              have:=key_uniq hnd (hr1 _ (lookup_mem' _ _ _ hq)) hx rfl
              injection this with _ this
              injection this with _ this
              subst this
              show (r.lookup t').or _=_
              rw [show r.lookup t'=some q from hq];rfl
            · have hbj:bOf listed j=true:=by rw [← hun j hji];exact hal1
              have halj:alive kl (bOf listed) j=true:=by
               unfold alive
               rw [hbj]
               cases hk:kl.lookup j with
               | none=>rfl
               | some m=>
                rw [hk] at hal2
                have hmi:¬ m=i:=fun h=>hnk (h▸hk)
                simp only [hun m hmi] at hal2
                simpa using hal2
              have hrn:r.lookup t'=none:=by
               cases hrl:r.lookup t' with
               | none=>rfl
               | some q=>
                exfalso
                have:=key_uniq hnd (hr1 _ (lookup_mem' _ _ _ hrl)) hx rfl
                injection this with this _
                exact hji this.symm
              have hbn:base.lookup t'=none:=by
               cases hb:base.lookup t' with
               | none=>rfl
               | some q=>exact absurd ht (hbl hb)
              show (r.lookup t').or _=_
              rw [hrn,hxn,hbn,mkK_lookup hnd hx,halj]
              cases hsll:sl.lookup t' with
              | some q=>
               obtain ⟨d,hd,hmem,_⟩:=hsl _ (lookup_mem' _ _ _ hsll)
               have:=key_uniq hnd hmem hx rfl
               injection this with h1 h2
               injection h2 with _ h2
               subst h1;subst h2
               rfl
              | none=>rfl
         · rw [mkK_none ht] at hp
           have hp':base.lookup t=some p:=by simpa using hp
           have hrn:r.lookup t=none:=by
            cases hrl:r.lookup t with
            | none=>rfl
            | some q=>exact absurd (List.mem_map.2 ⟨_,hr1 _ (lookup_mem' _ _ _ hrl),rfl⟩) ht
           have hxn:xt.lookup t=none:=by
            cases hrl:xt.lookup t with
            | none=>rfl
            | some q=>
             obtain ⟨d,q',hmem,_⟩:=hxt _ (lookup_mem' _ _ _ hrl)
             exact absurd (List.mem_map.2 ⟨_,hmem,rfl⟩) ht
           have hsn:sl.lookup t=none:=by
            cases hrl:sl.lookup t with
            | none=>rfl
            | some q=>
             obtain ⟨d,_,hmem,_⟩:=hsl _ (lookup_mem' _ _ _ hrl)
             exact absurd (List.mem_map.2 ⟨_,hmem,rfl⟩) ht
           left
           rw [hrn,hxn,hsn,hp'];rfl
 have hb0:bOf (Array.replicate ops.size false)=noB:=by
  funext j
  unfold bOf noB
  rw [Array.getD_eq_getD_getElem?,Array.getElem?_replicate]
  split<;>rfl
 refine key ops.size (Array.replicate ops.size false) a w.drew (by simp) (by simp [open_]) ?_ ?_
 · rw [hb0];intro j hj;cases hj
 · rw [hb0]
   refine Le_slots (s:=⟨base,M noB⟩) (s':=⟨mkK kl noB fs++base,M noB⟩) rfl (fun t p hp=>?_) a w.drew ⟨S,O,m,hd⟩
   simp only [GS.get,lookup_append] at hp ⊢
   by_cases ht:t ∈ fs.map (·.2.1)
   · obtain ⟨⟨j,t',p'⟩,hx,rfl⟩:=List.mem_map.1 ht
     rw [mkK_lookup hnd hx] at hp
     right
     have:PV.undef=p:=by simpa [alive,noB] using hp
     exact this.symm
   · rw [mkK_none ht] at hp
     left;simpa using hp
def CGk (kl:List (Nat×Nat)) (K:Ctx) (ops:Array Oper) (M:(Nat→Bool)→List (List PV)) (base:List (Nat×PV)) (Q:Exit→GS→Prop) (i:Nat) (es:List (Nat×Nat×PV)):Prop:=
 ∃ fs,ConfK kl K ops M base i es fs∧(fs.map (·.2.1)).Nodup∧(∀ x ∈ base,x.1 ∉ fs.map (·.2.1))∧(∀ x ∈ fs,x.1 < ops.size)∧Q .normal ⟨(fs.filter fun x=>(kl.lookup x.1).isNone).map (·.2)++base,M (allB ops.size)⟩
def CFk (kl:List (Nat×Nat)) (K:Ctx) (ops:Array Oper) (M:(Nat→Bool)→List (List PV)) (base:List (Nat×PV)) (Q:Exit→GS→Prop) (i:Nat) (es:List (Nat×Nat×PV)) (full:List (Nat×PV)→List (Nat×PV)):Prop:=
 ∀ ds:List Nat,(∀ rest,pick es ds++base++rest=full rest)→(ds.all fun d=>(depsOf ops i).contains d && (match kl.lookup d with | none=>true | some m=>Nat.beq m i))=true→CGk kl K ops M base Q i es
theorem ck_step (j:Nat) {kl:List (Nat×Nat)} {K:Ctx} {ops:Array Oper} {M:(Nat→Bool)→List (List PV)} {base:List (Nat×PV)} {Q:Exit→GS→Prop} {i:Nat} {es es':List (Nat×Nat×PV)} {r xt:List (Nat×PV)} {full:List (Nat×PV)→List (Nat×PV)}
 (h:∀ (b:Nat→Bool) (rest:List (Nat×PV)),b i=false→(∀ j ∈ depsOf ops i,b j=true)→Valid ops b→GOps K ops (fun e s'=>e=.normal∧s'=⟨r++(xt++full rest),M (upd b i)⟩) [i] ⟨full rest,M b⟩)
 (hc:CGk kl K ops M base Q j es') (hj:i + 1=j) (hes:es++r.map (fun x=>(i,x))=es')
 (hx:(xt.all fun y=>es.any fun e=>Nat.beq e.2.1 y.1 && (match kl.lookup e.1 with | some m=>Nat.beq m i | none=>false))=true):CFk kl K ops M base Q i es full:=by
 subst hj
 subst hes
 intro ds hfull hds
 obtain ⟨fs,h1,h2⟩:=hc
 refine ⟨fs,.step (sl:=pick es ds) (r:=r) (xt:=xt) (fun b rest g1 g2 g3=>?_) (fun x hx=>?_) (fun x hx'=>?_) h1,h2⟩
 · rw [hfull];exact h b rest g1 g2 g3
 · obtain ⟨d,g1,g2⟩:=pick_mem hx
   have:=List.all_eq_true.1 hds d g1
   rw [Bool.and_eq_true] at this
   refine ⟨d,by simpa using this.1,g2,?_⟩
   cases hk:kl.lookup d with
   | none=>exact .inl rfl
   | some m=>
    have h3:=this.2
    rw [hk] at h3
    exact .inr (by rw [Nat.eq_of_beq_eq_true h3])
 · have g1:=List.all_eq_true.1 hx x hx'
   obtain ⟨⟨d,t,q⟩,g2,g3⟩:=List.any_eq_true.1 g1
   rw [Bool.and_eq_true] at g3
   obtain ⟨g3,g4⟩:=g3
   have hte:t=x.1:=Nat.eq_of_beq_eq_true g3
   subst hte
   refine ⟨d,q,g2,?_⟩
   cases hk:kl.lookup d with
   | none=>simp only [hk] at g4;cases g4
   | some m=>
    simp only [hk] at g4
    rw [Nat.eq_of_beq_eq_true g4]
theorem ck_st (j:Nat) {kl:List (Nat×Nat)} {K:Ctx} {ops:Array Oper} {M:(Nat→Bool)→List (List PV)} {base:List (Nat×PV)} {Q:Exit→GS→Prop} {i t:Nat} {es es':List (Nat×Nat×PV)} {p:PV} {full:List (Nat×PV)→List (Nat×PV)}
 (h:∀ (b:Nat→Bool) (rest:List (Nat×PV)),b i=false→(∀ j ∈ depsOf ops i,b j=true)→Valid ops b→GOps K ops (fun e s'=>e=.normal∧s'=⟨(t,p) :: full rest,M (upd b i)⟩) [i] ⟨full rest,M b⟩)
 (hc:CGk kl K ops M base Q j es') (hj:i + 1=j:=by rfl) (hes:es++[(i,t,p)]=es':=by simp only [List.cons_append,List.nil_append]<;>rfl):CFk kl K ops M base Q i es full:=ck_step j (r:=[(t,p)]) (xt:=[]) h hc hj hes rfl
theorem ck_tk (j u:Nat) {kl:List (Nat×Nat)} {K:Ctx} {ops:Array Oper} {M:(Nat→Bool)→List (List PV)} {base:List (Nat×PV)} {Q:Exit→GS→Prop} {i t:Nat} {es es':List (Nat×Nat×PV)} {p q:PV} {full:List (Nat×PV)→List (Nat×PV)}
 (h:∀ (b:Nat→Bool) (rest:List (Nat×PV)),b i=false→(∀ j ∈ depsOf ops i,b j=true)→Valid ops b→GOps K ops (fun e s'=>e=.normal∧s'=⟨(t,p) :: (u,q) :: full rest,M (upd b i)⟩) [i] ⟨full rest,M b⟩)
 (hc:CGk kl K ops M base Q j es') (hj:i + 1=j:=by rfl) (hes:es++[(i,t,p)]=es':=by simp only [List.cons_append,List.nil_append]<;>rfl)
 (hx:(([(u,q)]:List (Nat×PV)).all fun y=>es.any fun e=>Nat.beq e.2.1 y.1 && (match kl.lookup e.1 with | some m=>Nat.beq m i | none=>false))=true:=by rfl):CFk kl K ops M base Q i es full:=ck_step j (r:=[(t,p)]) (xt:=[(u,q)]) h hc hj hes hx
theorem ck_act (j:Nat) {kl:List (Nat×Nat)} {K:Ctx} {ops:Array Oper} {M:(Nat→Bool)→List (List PV)} {base:List (Nat×PV)} {Q:Exit→GS→Prop} {i:Nat} {es:List (Nat×Nat×PV)} {full:List (Nat×PV)→List (Nat×PV)}
 (h:∀ (b:Nat→Bool) (rest:List (Nat×PV)),b i=false→(∀ j ∈ depsOf ops i,b j=true)→Valid ops b→GOps K ops (fun e s'=>e=.normal∧s'=⟨full rest,M (upd b i)⟩) [i] ⟨full rest,M b⟩)
 (hc:CGk kl K ops M base Q j es) (hj:i + 1=j:=by rfl):CFk kl K ops M base Q i es full:=ck_step j (r:=[]) (xt:=[]) h (by simpa using hc) hj rfl rfl
theorem ck_atk (j u:Nat) {kl:List (Nat×Nat)} {K:Ctx} {ops:Array Oper} {M:(Nat→Bool)→List (List PV)} {base:List (Nat×PV)} {Q:Exit→GS→Prop} {i:Nat} {es:List (Nat×Nat×PV)} {q:PV} {full:List (Nat×PV)→List (Nat×PV)}
 (h:∀ (b:Nat→Bool) (rest:List (Nat×PV)),b i=false→(∀ j ∈ depsOf ops i,b j=true)→Valid ops b→GOps K ops (fun e s'=>e=.normal∧s'=⟨(u,q) :: full rest,M (upd b i)⟩) [i] ⟨full rest,M b⟩)
 (hc:CGk kl K ops M base Q j es) (hj:i + 1=j:=by rfl)
 (hx:(([(u,q)]:List (Nat×PV)).all fun y=>es.any fun e=>Nat.beq e.2.1 y.1 && (match kl.lookup e.1 with | some m=>Nat.beq m i | none=>false))=true:=by rfl):CFk kl K ops M base Q i es full:=ck_step j (r:=[]) (xt:=[(u,q)]) h (by simpa using hc) hj rfl hx
theorem g_ck (kl:List (Nat×Nat)) {K:Ctx} {id:Nat} {ops:Array Oper} {Q:Exit→GS→Prop} {slots base:List (Nat×PV)} {mem:List (List PV)} (dsts:List Nat) (M:(Nat→Bool)→List (List PV)) (hM:M noB=mem) (hc:CGk kl K ops M base Q 0 [])
 (hbase:(slots.filter fun x=>!dsts.contains x.1)=base:=by simp only [List.filter_cons,List.filter_nil,List.contains_cons,List.contains_nil,Nat.reduceBEq,Bool.or_false,Bool.false_or,Bool.or_true,Bool.true_or,Bool.not_true,Bool.not_false,if_true,if_false,Bool.false_eq_true]<;>rfl)
 (hm:K.P.follows .mixedOrders=true:=by kernel_rfl) (hdep:((List.range ops.size).all fun i=>(depsOf ops i).all fun d=>Nat.blt d i)=true:=by kernel_rfl):G K (.region id ops true) Q ⟨slots,mem⟩:=by
 obtain ⟨fs,hc,hnd,hdis,hfi,hq⟩:=hc
 refine G_confK ops.size rfl hm (Le_slots (s':=⟨base,M noB⟩) hM fun t p hp=>.inl ?_) hc hnd hdis (fun i hi d hd=>?_) (Le_slots (s':=⟨(fs.filter fun x=>(kl.lookup x.1).isNone).map (·.2)++base,M (allB ops.size)⟩) rfl fun t p hp=>.inl (alive_end hnd hfi t p hp hdis)) hfi hq
 · subst hbase
   exact filter_lookup (fun k=>!dsts.contains k) _ t p hp
 · have h1:=List.all_eq_true.1 hdep i (List.mem_range.2 hi)
   have h2:=List.all_eq_true.1 h1 d hd
   simpa using h2
end
section
def inScp (Q:Exit→GS→Prop):Exit→GS→Prop
 | .goto _,_=>False
 | e,s=>Q e s
theorem G_scope {K:Ctx} {c:Code} {Q:Exit→GS→Prop} {s:GS} (h:G K c (inScp Q) s):G K (.scope c) Q s:=by
 intro a w ha
 refine wp_scope_straight (wp_mono (h a w ha) ?_)
 rintro e a' w' ⟨s',q,r⟩
 cases e with
 | normal=>exact ⟨s',q,r⟩
 | exit id'=>exact ⟨s',q,r⟩
 | goto l=>exact q.elim
 | ret=>exact ⟨s',q,r⟩
 | panic ch=>exact ⟨s',q,r⟩
 | outgrown=>exact ⟨s',q,r⟩
theorem G_label {K:Ctx} {l:Nat} {Q:Exit→GS→Prop} {s:GS} (h:Q .normal s):G K (.label l) Q s:=fun a w ha=>wp_label ⟨s,h,ha⟩
section
variable {Q:Exit→GS→Prop} {s:GS} {id:Nat}
end
end
section
def chain1 (v:Value):List PanicEntry:=[{ v:=v,recovered:=false }]
def GX (P:Program) (f:FuncId) (args:List PV) (mem:List (List PV)) (R:PV→List (List PV)→Prop) (RX:Value→List (List PV)→Prop):Prop:=
 ∀ (w:World) (S:Reg) (O:Owns) (m:List Nat) (vals:Array Value),Env S O w S O m mem w→vals.size=args.length→
  (∀ (i:Nat) p v,args[i]? = some p→vals[i]? = some v→RP w S O m [i,0] p v)→
  Calls P f vals w (fun e w'=>(∃ v r mem' S' O' m',e=.returned v∧R r mem'∧Env S O w S' O' m' mem' w'∧m <+: m'∧RP w' S' O' m' [2] r v)∨
   ∃ v mem' S' O' m',e=.panicked (chain1 v)∧RX v mem'∧Env S O w S' O' m' mem' w'∧m <+: m')
def Px (P:Program) (f:FuncId) (args:List D) (out:PV ⊕ Value):Prop:=Fok P f∧GX P f (args.map .d) [] (fun q m=>out=.inl q∧m=[]) (fun v m=>out=.inr v∧m=[])
theorem Px.inl {P:Program} {f:FuncId} {args:List D} {r:PV} (h:Px P f args (.inl r)):Pf P f args r:=
 ⟨h.1,fun w S O m vals h1 h2 h3=>(h.2 w S O m vals h1 h2 h3).mono fun _ _ hx=>by
  rcases hx with ⟨v,q,mem',S',O',m',e,⟨g,hm⟩,rest⟩ | ⟨v,mem',S',O',m',e,⟨g,_⟩,_⟩
  · injection g with g
    exact ⟨v,q,mem',S',O',m',e,⟨g.symm,hm⟩,rest⟩
  · cases g⟩
section
variable {K:Ctx} {y:Code} {Q:Exit→GS→Prop} {s:GS} {id:Nat} {ch:List PanicEntry} {P:Program} {rvs:List ResultVar} {k:Nat} {R:PV→List (List PV)→Prop} {RX:Value→List (List PV)→Prop}
end
theorem g_loopp {K:Ctx} {c:Code} {Q:Exit→GS→Prop} {s:GS} {α:Type} (St:α→GS) (mu:α→Nat) (I:α→Prop) (x0:α) (h0:I x0)
 (hr:∀ x,I x→∀ Q':Exit→GS→Prop,(∀ s' x',I x'→mu x' < mu x→Le K s' (St x')→Q' .normal s')→(∀ id s',Q (.exit id) s'→Q' (.exit id) s')→(∀ s',Q .ret s'→Q' .ret s')→(∀ ch s',Q (.panic ch) s'→Q' (.panic ch) s')→G K c Q' (St x))
 (hs:Le K s (St x0)):G K (.loop c) Q s:=
 G_loop St mu I x0 h0 hs (fun x hx=>hr x hx _ (fun s' x' h1 h2 h3=>⟨x',h1,h2,h3⟩) (fun _ _ h=>h) (fun _ h=>h) (fun _ _ h=>h))
end
section
mutual
/-- It does not name the block b. -/
def PV.nref (b:Nat):PV→Bool
 | .ref b' _=>!(b' == b)
 | .rsl b' _ _ _=>!(b' == b)
 | .mref b'=>!(b' == b)
 | .ifr _ b' _=>!(b' == b)
 | .fn _ fs cs=>PV.nrefs b fs && PV.nrefs b cs
 | .agg cs=>PV.nrefs b cs
 | .tup cs=>PV.nrefs b cs
 | .when _ p=>PV.nref b p
 | _=>true
def PV.nrefs (b:Nat):List PV→Bool
 | []=>true
 | p :: ps=>PV.nref b p && PV.nrefs b ps
end
variable {b:Nat}
theorem PV.nrefs_get {ps:List PV} (h:PV.nrefs b ps=true) {j:Nat} {p:PV} (hp:ps[j]? = some p):PV.nref b p=true:=by
 induction ps generalizing j with
 | nil=>simp at hp
 | cons q qs ih=>
  simp only [PV.nrefs,Bool.and_eq_true] at h
  cases j with
  | zero=>simp at hp;exact hp▸h.1
  | succ j=>exact ih h.2 (by simpa using hp)
theorem RP.reset {w:World} {S:Reg} {O:Owns} {m l:List Nat} {p:PV} {v:Value} (h:RP w S O m l p v) (b r':Nat):PV.nref b p=true→RP w S O (m.set b r') l p v:=by
 have key:∀ {b' r:Nat},(!(b' == b))=true→m[b']? = some r→(m.set b r')[b']? = some r:=fun {b' r} hb hm=>by
  rw [List.getElem?_set_ne (by intro he;subst he;simp at hb)];exact hm
 induction h with
 | d l x v h=>exact fun _=>.d l x v h
 | nils l=>exact fun _=>.nils l
 | osl l k xs a cap hr hk hn ht=>exact fun _=>.osl l k xs a cap hr hk hn ht
 | ref l b off r h=>intro hb;simp only [PV.nref] at hb;exact .ref l b off r (key hb h)
 | rsl l b off n' k a cap hc hl h0 h=>intro hb;simp only [PV.nref] at hb;exact .rsl l b off n' k a cap hc hl h0 (fun hn=>by obtain ⟨r,h1,h2⟩:=h hn;exact ⟨r,key hb h1,h2⟩)
 | mref l b r h=>intro hb;simp only [PV.nref] at hb;exact .mref l b r (key hb h)
 | ifr l t b off r h=>intro hb;simp only [PV.nref] at hb;exact .ifr l t b off r (key hb h)
 | fn l f first caps vf vc h1 h2 _ _ g1 g2=>
  intro hb
  simp only [PV.nref,Bool.and_eq_true] at hb
  exact .fn l f first caps vf vc h1 h2 (fun i p v hi hv=>g1 i p v hi hv (PV.nrefs_get hb.1 hi)) (fun i p v hi hv=>g2 i p v hi hv (PV.nrefs_get hb.2 hi))
 | agg l cs vs hl ho _ ih=>intro hb;simp only [PV.nref] at hb;exact .agg l cs vs hl ho (fun i p v hi hv=>ih i p v hi hv (PV.nrefs_get hb hi))
 | tup l cs vs hl _ ih=>intro hb;simp only [PV.nref] at hb;exact .tup l cs vs hl (fun i p v hi hv=>ih i p v hi hv (PV.nrefs_get hb hi))
 | whenT l b p v hbt _ ih=>intro hb;simp only [PV.nref] at hb;exact .whenT l b p v hbt (ih hb)
 | whenF l b p hbf=>exact fun _=>.whenF l b p hbf
 | undef l v=>exact fun _=>.undef l v
def nrefM (b:Nat):Nat→List (List PV)→Bool
 | _,[]=>true
 | i,c :: r=>((i == b) || PV.nrefs b c) && nrefM b (i + 1) r
theorem nrefM_get:∀ {mem:List (List PV)} {k:Nat},nrefM b k mem=true→∀ {i:Nat} {cs:List PV},mem[i]? = some cs→k + i ≠ b→PV.nrefs b cs=true
 | [],_,_,i,cs,h,_=>by simp at h
 | c :: r,k,h,i,cs,hi,hne=>by
  simp only [nrefM,Bool.and_eq_true,Bool.or_eq_true,beq_iff_eq] at h
  cases i with
  | zero=>
   simp at hi
   subst hi
   rcases h.1 with h1 | h1
   · exact absurd h1 hne
   · exact h1
  | succ i=>exact nrefM_get (k:=k + 1) h.2 (by simpa using hi) (by omega)
def sansB (b:Nat) (l:List (Nat×PV)):List (Nat×PV):=l.map fun x=>(x.1,if PV.nref b x.2=true then x.2 else .undef)
theorem sansB_lookup {i:Nat} {p:PV}:∀ {l:List (Nat×PV)},(sansB b l).lookup i=some p→∃ q,l.lookup i=some q∧((PV.nref b q=true∧p=q)∨p=.undef)
 | [],h=>by cases h
 | (j,q) :: l,h=>by
  rw [show sansB b ((j,q) :: l)=(j,if PV.nref b q=true then q else .undef) :: sansB b l from rfl,List.lookup_cons] at h
  rw [List.lookup_cons]
  cases hij:i == j with
  | true=>
   rw [hij] at h
   injection h with h
   refine ⟨q,rfl,?_⟩
   split at h
   · rename_i h1;exact .inl ⟨h1,h.symm⟩
   · exact .inr h.symm
  | false=>
   rw [hij] at h
   exact sansB_lookup h
theorem Env.renew {S0:Reg} {O0:Owns} {w0:World} {S:Reg} {O:Owns} {m:List Nat} {mem:List (List PV)} {w:World} (h:Env S0 O0 w0 S O m mem w) {b r':Nat} {w':World} {cs:List PV} (hb:b < mem.length) (hE:Ext S w w')
 (hO:r'=w.heap.size∨O r'=some ([b,1],0)) (hlt:r' < w'.heap.size) (hsame:∀ q,q < w.heap.size→q ≠ r'→w'.heap[q]? = w.heap[q]?) (hno:nrefM b 0 mem=true)
 (hblk:Blk w' S (fun q=>if q=r' then some ([b,1],0) else O q) (m.set b r') b cs r'):Env S0 O0 w0 S (fun q=>if q=r' then some ([b,1],0) else O q) (m.set b r') (mem.set b cs) w':=by
 have hsz0:w0.heap.size≤w.heap.size:=h.ext.size
 have hnr:∀ q,q < w0.heap.size→q=r'→∃ l0 t0,O0 r'=some (l0,t0)∧t0≤0:=fun q hq he=>by
  subst he
  rcases hO with h1 | h1
  · omega
  · rcases h.onew _ _ _ h1 with h2 | h2
    · omega
    · exact h2
 have hS:∀ o,¬ S r' o:=fun o hS=>by
  rcases hO with h1 | h1
  · have:=h.slt _ _ hS;omega
  · have:=h.sown _ _ _ _ hS h1;omega
 refine ⟨h.ext.trans hE h.s0,fun q hq hO'=>?_,fun q l t o hq hO' hot=>?_,h.s0,h.snew,fun q o l t hSq hO'=>?_,fun q o hSq=>Nat.lt_of_lt_of_le (h.slt q o hSq) hE.size,fun q l t hO'=>?_,fun q l t hO'=>?_,by simp [h.mlen],fun i cs' r hi hr hne=>?_⟩
 · have hqr:q ≠ r':=fun he=>by obtain ⟨l0,t0,h1,_⟩:=hnr q hq he;rw [← he,hO'] at h1;cases h1
   rw [hsame q (by omega) hqr];exact h.old q hq hO'
 · have hqr:q ≠ r':=fun he=>by
    obtain ⟨l0,t0,h1,h2⟩:=hnr q hq he
    rw [← he,hO'] at h1;injection h1 with h1;injection h1 with _ h1;omega
   have:w'.cell? ⟨q,o,none⟩=w.cell? ⟨q,o,none⟩:=by simp only [World.cell?,hsame q (by omega) hqr]
   rw [this];exact h.part q l t o hq hO' hot
 · by_cases hq:q=r'
   · subst hq;exact absurd hSq (hS o)
   · rw [if_neg hq] at hO';exact h.sown q o l t hSq hO'
 · by_cases hq:q=r'
   · rw [hq];exact hlt
   · rw [if_neg hq] at hO';exact Nat.lt_of_lt_of_le (h.olt q l t hO') hE.size
 · by_cases hq:q=r'
   · rw [if_pos hq] at hO'
     injection hO' with hO';injection hO' with h1 h2
     subst h1;subst h2;subst hq
     rcases hO with h1 | h1
     · exact .inl (by omega)
     · exact h.onew _ _ _ h1
   · rw [if_neg hq] at hO';exact h.onew q l t hO'
 · by_cases hib:i=b
   · subst hib
     rw [List.getElem?_set_self hb] at hi
     rw [List.getElem?_set_self (by rw [h.mlen];exact hb)] at hr
     injection hi with hi;injection hr with hr
     subst hi;subst hr
     exact ⟨if_pos rfl,hblk⟩
   · rw [List.getElem?_set_ne (by omega)] at hi hr
     obtain ⟨g1,g2⟩:=h.mem i cs' r hi hr hne
     have hrr:r ≠ r':=fun he=>by
      subst he
      rcases hO with h1 | h1
      · have:=h.olt _ _ _ g1;omega
      · rw [g1] at h1;simp at h1;exact hib h1
     refine ⟨by rw [if_neg hrr];exact g1,g2.to (hsame r (h.olt _ _ _ g1) hrr) hE (fun _ _ h=>h) rfl (fun j p hp=>⟨p,hp,fun v hv=>?_⟩) (fun p p' h0 h1 _=>.inl (by rw [h0] at h1;injection h1 with h1;exact h1.symm))⟩
     refine RP.reset (hv.frame _ hE (fun _ _ h=>h) (fun q t x hx=>?_) (fun _ _ h=>h)) b r' (PV.nrefs_get (nrefM_get hno hi (by omega)) hp)
     rw [if_neg];· exact hx
     rintro rfl
     rcases hO with h1 | h1
     · have:=h.olt _ _ _ hx;omega
     · rw [hx] at h1;injection h1 with h1;injection h1 with h1 _
       have:=congrArg List.length h1
       simp at this
end
section
def renN (sel:List Nat) (n:Nat) (b:Nat):Nat:=if b < sel.length then sel.getD b 0 else b - sel.length + n
end
section
theorem Le_nilrowA {K:Ctx} {s:GS} (t k:Nat) (hs:s.get t=some .nils):Le K s ⟨(t,.rsl s.mem.length 0 0 k) :: s.slots,s.mem++[[]]⟩:=by
 rintro a w ⟨S,O,m,h⟩
 have hd:=h.dummy
 refine ⟨S,O,_,hd.env,hd.defers,hd.size,hd.pre,fun i p hp=>?_⟩
 have hp':(if i=t then some (PV.rsl s.mem.length 0 0 k) else s.get i)=some p:=by
  by_cases hi:i=t
  · subst hi;rw [if_pos rfl];simpa [GS.get,List.lookup] using hp
  · have:(i == t)=false:=by simpa using hi
    rw [if_neg hi]
    simpa [GS.get,List.lookup,this] using hp
 by_cases hi:i=t
 · rw [if_pos hi] at hp'
   injection hp' with hp'
   subst hp';subst hi
   have:=h.slots i _ hs
   generalize a.tmps.getD i undef=v at this
   cases this with
   | nils=>exact .rsl _ _ _ _ _ none 0 (Nat.le_refl _) (by simp [lim]) (fun _ _=>rfl) (fun h=>absurd rfl h)
 · rw [if_neg hi] at hp'
   exact hd.slots i p hp'
end
section
theorem Le_forget {K:Ctx} {s:GS} {keep:List (List PV)} {cs:List PV} (n:Nat) (hmem:s.mem=keep++[cs]) (hn:keep.length=n) (hk:K.m0.length≤n)
 (hrf:keep.all (PV.refsBs n)=true):Le K s ⟨s.slots.map fun x=>(x.1,PV.frz n noF noH .undef x.2),keep⟩:=by
 refine Le_frz n 0 noF noH .undef hmem hn hk (Nat.zero_le _) rfl (fun i cs' hi=>⟨cs',hi,rfl,fun j p' hp=>⟨p',hp,.inl ⟨rfl,PV.refsBs_get (List.all_eq_true.1 hrf cs' (mG hi)) hp⟩⟩⟩) ?_
 intro S O m a w h r hr O'
 exact ⟨fun off l=>.undef _ _,fun off c k ad cap l _ _ _ _=>.undef _ _,fun l=>.undef _ _⟩
end
end Go.Proofs.YtoonleefemkalaaDoor.E
