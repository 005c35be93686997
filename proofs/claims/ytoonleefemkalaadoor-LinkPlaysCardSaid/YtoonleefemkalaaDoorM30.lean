import Derived.Test.YtoonleefemkalaaDoorM29
import Derived.Test.YtoonleefemkalaaDoorM26
import Derived.Test.YtoonleefemkalaaDoorM28
/- Contracts of functions. Conditions: none. -/
set_option linter.unusedSimpArgs false
set_option linter.unusedVariables false
set_option maxRecDepth 20000
namespace Go.Proofs.YtoonleefemkalaaDoor
open Go Go.Proofs.YtoonleefemkalaaDoor.E
section
theorem ren_nref (n N:Nat):∀ p:PV,PV.nref n p=true→p.ren (mvN n N)=p:=by
 intro p
 induction p using PV.rec (motive_2:=fun ps=>PV.nrefs n ps=true→PV.rens (mvN n N) ps=ps) with
 | d x=>exact fun _=>rfl
 | nils=>exact fun _=>rfl
 | osl k xs=>exact fun _=>rfl
 | ref b off=>
  intro h
  have h':(!(b == n))=true:=h
  have hb:¬ b=n:=fun e=>by rw [e] at h';simp at h'
  show PV.ref (mvN n N b) off=_
  unfold mvN;rw [if_neg hb]
 | rsl b off c k=>
  intro h
  have h':(!(b == n))=true:=h
  have hb:¬ b=n:=fun e=>by rw [e] at h';simp at h'
  show PV.rsl (mvN n N b) off c k=_
  unfold mvN;rw [if_neg hb]
 | mref b=>
  intro h
  have h':(!(b == n))=true:=h
  have hb:¬ b=n:=fun e=>by rw [e] at h';simp at h'
  show PV.mref (mvN n N b)=_
  unfold mvN;rw [if_neg hb]
 | ifr t b off=>
  intro h
  have h':(!(b == n))=true:=h
  have hb:¬ b=n:=fun e=>by rw [e] at h';simp at h'
  show PV.ifr t (mvN n N b) off=_
  unfold mvN;rw [if_neg hb]
 | mapc kvs=>exact fun _=>rfl
 | fn f a c iha ihc=>
  intro h
  have h':(PV.nrefs n a && PV.nrefs n c)=true:=h
  rw [Bool.and_eq_true] at h'
  show PV.fn f (PV.rens (mvN n N) a) (PV.rens (mvN n N) c)=_
  rw [iha h'.1,ihc h'.2]
 | agg cs ih=>intro h;show PV.agg (PV.rens (mvN n N) cs)=_;rw [ih h]
 | tup cs ih=>intro h;show PV.tup (PV.rens (mvN n N) cs)=_;rw [ih h]
 | when b p ih=>intro h;show PV.when b (p.ren (mvN n N))=_;rw [ih h]
 | undef=>exact fun _=>rfl
 | nil=>exact rfl
 | cons p ps ih1 ih2=>
  rename_i h
  have h':(PV.nref n p && PV.nrefs n ps)=true:=h
  rw [Bool.and_eq_true] at h'
  show p.ren (mvN n N) :: PV.rens (mvN n N) ps=_
  rw [ih1 h'.1,ih2 h'.2]
theorem ren_slots {n N:Nat} {L:List Nat} (hn:n ∈ L):∀ {sl:List (Nat×PV)},sl.all (fun x=>nrefL L x.2)=true→(sl.map fun x=>(x.1,x.2.ren (mvN n N)))=sl
 | [],_=>rfl
 | x :: sl,h=>by
  rw [List.all_cons,Bool.and_eq_true] at h
  rw [List.map_cons,ren_slots hn h.2,ren_nref n N x.2 (nrefL_of h.1 hn)]
theorem gFz1 (n:Nat) (pre xs post:List D) (k:Nat) (L:List Nat) {K:Ctx} {fr:List Fr} {c:Cf} {Q:Exit→GS→Prop} {sl:List (Nat×PV)} {mem mem':List (List PV)} (hmem:mem[n]? = some (flat (pre++xs++post))) (hk:∀ x ∈ pre++xs++post,x.cells.length=k) (hk0:0 < k) (hm:K.m0.length=0) (hn:n ∈ L) (hN:L.contains mem.length=true) (hsl:sl.all (fun x=>nrefL L x.2)=true) (hmm:((mem.set n []).map (PV.rens (mvN n mem.length))).map (PV.frzs mem.length noF (rowHG k pre xs post) .undef)=mem') (hc:goes c=true) (hg:GF K fr c Q ⟨sl,mem'⟩):GF K fr c Q ⟨sl,mem⟩:=
 gMvE n hmem (by rw [hm];exact Nat.zero_le _) (ren_slots hn hsl) rfl hc (gFrG pre xs post k mem.length (by rw [List.length_map,List.length_set]) hk hk0 (by rw [hm];exact Nat.zero_le _) (frz_slots (by simpa using hN) hsl) hmm hc hg)
theorem gFzL (n:Nat) (pre xs post:List D) (k:Nat) (L:List Nat) {K:Ctx} {fr:List Fr} {c:Cf} {Q:Exit→GS→Prop} {sl:List (Nat×PV)} {mem mem':List (List PV)} (hmem:mem=mem.dropLast++[flat (pre++xs++post)]) (hl:mem.dropLast.length=n) (hk:∀ x ∈ pre++xs++post,x.cells.length=k) (hk0:0 < k) (hm:K.m0.length=0) (hn:n ∈ L) (hsl:sl.all (fun x=>nrefL L x.2)=true) (hmm:mem.dropLast.map (PV.frzs n noF (rowHG k pre xs post) .undef)=mem') (hc:goes c=true) (hg:GF K fr c Q ⟨sl,mem'⟩):GF K fr c Q ⟨sl,mem⟩:=by
 rw [hmem]
 exact gFrG pre xs post k n hl hk hk0 (by rw [hm];exact Nat.zero_le _) (frz_slots hn hsl) hmm hc hg
theorem fzT {A:Prop} (h:A:=by simp only [List.set_cons_succ,List.set_cons_zero,List.dropLast,List.map_cons,List.map_nil,List.length_cons,List.length_nil,rens_flat,frz_flat,PV.rens,PV.ren,PV.frzs,PV.frz,rowV,rowHG,mvN,zcel,unk,List.replicate,if_true,if_false,and_self,reduceIte,Nat.reduceEqDiff,Nat.reduceAdd]<;>rfl):A:=h
variable {K:Ctx} {fr:List Fr} {cf:Cf} {Q:Exit→GS→Prop} {sl:List (Nat×PV)} {c:Ch}
theorem gK_t {u1 u2:List D} (hu:∀ x ∈ u1++sD c.una++u2,x.cells.length=1) {w1 w2:List D} (hw:∀ x ∈ w1++sD c.wai++w2,x.cells.length=1) {e1 e2:List D} (he:∀ x ∈ e1++pD c.ear++e2,x.cells.length=3) {d1 d2:List D} (hd:∀ x ∈ d1++sD c.del++d2,x.cells.length=1) {t1 t2:List D} {b1 b2:List D} (hb:∀ x ∈ b1++sD c.bak++b2,x.cells.length=1) (hm0:K.m0.length=0) (hg:GF K fr cf Q ⟨sl,[[.d (.int .i64 c.win),.d (.int .i64 c.base),.d (.int .i64 c.nxt),.d (.sl (sD c.una)),.d (.sl (sD c.wai)),.d (.int .i64 c.exp),.d (.sl (pD c.ear)),.d (.sl (sD c.del)),rowV 8 1 t1 (sD c.tos) t2,.d (.sl (sD c.bak))],zcel,unk 10,unk 10,[],[],[],[],flat (t1++sD c.tos++t2)]⟩) (hsl:sl.all (fun x=>nrefL [4,5,6,7,8,9] x.2)=true:=by rfl) (hc:goes cf=true:=by rfl):GF K fr cf Q ⟨sl,[[.d (.int .i64 c.win),.d (.int .i64 c.base),.d (.int .i64 c.nxt),rowV 4 1 u1 (sD c.una) u2,rowV 5 1 w1 (sD c.wai) w2,.d (.int .i64 c.exp),rowV 6 3 e1 (pD c.ear) e2,rowV 7 1 d1 (sD c.del) d2,rowV 8 1 t1 (sD c.tos) t2,rowV 9 1 b1 (sD c.bak) b2],zcel,unk 10,unk 10,flat (u1++sD c.una++u2),flat (w1++sD c.wai++w2),flat (e1++pD c.ear++e2),flat (d1++sD c.del++d2),flat (t1++sD c.tos++t2),flat (b1++sD c.bak++b2)]⟩:=by
 refine gFzL 9 b1 (sD c.bak) b2 1 [4,5,6,7,8,9] rfl rfl hb (by decide) hm0 (by decide) hsl fzT hc ?_
 refine gFz1 7 d1 (sD c.del) d2 1 [4,5,6,7,8,9] rfl hd (by decide) hm0 (by decide) rfl hsl fzT hc ?_
 refine gFz1 6 e1 (pD c.ear) e2 3 [4,5,6,7,8,9] rfl he (by decide) hm0 (by decide) rfl hsl fzT hc ?_
 refine gFz1 5 w1 (sD c.wai) w2 1 [4,5,6,7,8,9] rfl hw (by decide) hm0 (by decide) rfl hsl fzT hc ?_
 refine gFz1 4 u1 (sD c.una) u2 1 [4,5,6,7,8,9] rfl hu (by decide) hm0 (by decide) rfl hsl fzT hc ?_
 exact hg
theorem gK_b {u1 u2:List D} (hu:∀ x ∈ u1++sD c.una++u2,x.cells.length=1) {w1 w2:List D} (hw:∀ x ∈ w1++sD c.wai++w2,x.cells.length=1) {e1 e2:List D} (he:∀ x ∈ e1++pD c.ear++e2,x.cells.length=3) {d1 d2:List D} (hd:∀ x ∈ d1++sD c.del++d2,x.cells.length=1) {t1 t2:List D} (ht:∀ x ∈ t1++sD c.tos++t2,x.cells.length=1) {b1 b2:List D} (hm0:K.m0.length=0) (hg:GF K fr cf Q ⟨sl,[[.d (.int .i64 c.win),.d (.int .i64 c.base),.d (.int .i64 c.nxt),.d (.sl (sD c.una)),.d (.sl (sD c.wai)),.d (.int .i64 c.exp),.d (.sl (pD c.ear)),.d (.sl (sD c.del)),.d (.sl (sD c.tos)),rowV 9 1 b1 (sD c.bak) b2],zcel,unk 10,unk 10,[],[],[],[],[],flat (b1++sD c.bak++b2)]⟩) (hsl:sl.all (fun x=>nrefL [4,5,6,7,8,9,10] x.2)=true:=by rfl) (hc:goes cf=true:=by rfl):GF K fr cf Q ⟨sl,[[.d (.int .i64 c.win),.d (.int .i64 c.base),.d (.int .i64 c.nxt),rowV 4 1 u1 (sD c.una) u2,rowV 5 1 w1 (sD c.wai) w2,.d (.int .i64 c.exp),rowV 6 3 e1 (pD c.ear) e2,rowV 7 1 d1 (sD c.del) d2,rowV 8 1 t1 (sD c.tos) t2,rowV 9 1 b1 (sD c.bak) b2],zcel,unk 10,unk 10,flat (u1++sD c.una++u2),flat (w1++sD c.wai++w2),flat (e1++pD c.ear++e2),flat (d1++sD c.del++d2),flat (t1++sD c.tos++t2),flat (b1++sD c.bak++b2)]⟩:=by
 refine gFz1 8 t1 (sD c.tos) t2 1 [4,5,6,7,8,9,10] rfl ht (by decide) hm0 (by decide) rfl hsl fzT hc ?_
 refine gFz1 7 d1 (sD c.del) d2 1 [4,5,6,7,8,9,10] rfl hd (by decide) hm0 (by decide) rfl hsl fzT hc ?_
 refine gFz1 6 e1 (pD c.ear) e2 3 [4,5,6,7,8,9,10] rfl he (by decide) hm0 (by decide) rfl hsl fzT hc ?_
 refine gFz1 5 w1 (sD c.wai) w2 1 [4,5,6,7,8,9,10] rfl hw (by decide) hm0 (by decide) rfl hsl fzT hc ?_
 refine gFz1 4 u1 (sD c.una) u2 1 [4,5,6,7,8,9,10] rfl hu (by decide) hm0 (by decide) rfl hsl fzT hc ?_
 exact hg
theorem gK_db {u1 u2:List D} (hu:∀ x ∈ u1++sD c.una++u2,x.cells.length=1) {w1 w2:List D} (hw:∀ x ∈ w1++sD c.wai++w2,x.cells.length=1) {e1 e2:List D} (he:∀ x ∈ e1++pD c.ear++e2,x.cells.length=3) {d1 d2:List D} {t1 t2:List D} (ht:∀ x ∈ t1++sD c.tos++t2,x.cells.length=1) {b1 b2:List D} (hm0:K.m0.length=0) (hg:GF K fr cf Q ⟨sl,[[.d (.int .i64 c.win),.d (.int .i64 c.base),.d (.int .i64 c.nxt),.d (.sl (sD c.una)),.d (.sl (sD c.wai)),.d (.int .i64 c.exp),.d (.sl (pD c.ear)),rowV 7 1 d1 (sD c.del) d2,.d (.sl (sD c.tos)),rowV 9 1 b1 (sD c.bak) b2],zcel,unk 10,unk 10,[],[],[],flat (d1++sD c.del++d2),[],flat (b1++sD c.bak++b2)]⟩) (hsl:sl.all (fun x=>nrefL [4,5,6,7,8,9,10] x.2)=true:=by rfl) (hc:goes cf=true:=by rfl):GF K fr cf Q ⟨sl,[[.d (.int .i64 c.win),.d (.int .i64 c.base),.d (.int .i64 c.nxt),rowV 4 1 u1 (sD c.una) u2,rowV 5 1 w1 (sD c.wai) w2,.d (.int .i64 c.exp),rowV 6 3 e1 (pD c.ear) e2,rowV 7 1 d1 (sD c.del) d2,rowV 8 1 t1 (sD c.tos) t2,rowV 9 1 b1 (sD c.bak) b2],zcel,unk 10,unk 10,flat (u1++sD c.una++u2),flat (w1++sD c.wai++w2),flat (e1++pD c.ear++e2),flat (d1++sD c.del++d2),flat (t1++sD c.tos++t2),flat (b1++sD c.bak++b2)]⟩:=by
 refine gFz1 8 t1 (sD c.tos) t2 1 [4,5,6,7,8,9,10] rfl ht (by decide) hm0 (by decide) rfl hsl fzT hc ?_
 refine gFz1 6 e1 (pD c.ear) e2 3 [4,5,6,7,8,9,10] rfl he (by decide) hm0 (by decide) rfl hsl fzT hc ?_
 refine gFz1 5 w1 (sD c.wai) w2 1 [4,5,6,7,8,9,10] rfl hw (by decide) hm0 (by decide) rfl hsl fzT hc ?_
 refine gFz1 4 u1 (sD c.una) u2 1 [4,5,6,7,8,9,10] rfl hu (by decide) hm0 (by decide) rfl hsl fzT hc ?_
 exact hg
theorem gK_n {u1 u2:List D} (hu:∀ x ∈ u1++sD c.una++u2,x.cells.length=1) {w1 w2:List D} (hw:∀ x ∈ w1++sD c.wai++w2,x.cells.length=1) {e1 e2:List D} (he:∀ x ∈ e1++pD c.ear++e2,x.cells.length=3) {d1 d2:List D} (hd:∀ x ∈ d1++sD c.del++d2,x.cells.length=1) {t1 t2:List D} (ht:∀ x ∈ t1++sD c.tos++t2,x.cells.length=1) {b1 b2:List D} (hb:∀ x ∈ b1++sD c.bak++b2,x.cells.length=1) (hm0:K.m0.length=0) (hg:GF K fr cf Q ⟨sl,[[.d (.int .i64 c.win),.d (.int .i64 c.base),.d (.int .i64 c.nxt),.d (.sl (sD c.una)),.d (.sl (sD c.wai)),.d (.int .i64 c.exp),.d (.sl (pD c.ear)),.d (.sl (sD c.del)),.d (.sl (sD c.tos)),.d (.sl (sD c.bak))],zcel,unk 10,unk 10]⟩) (hsl:sl.all (fun x=>nrefL [4,5,6,7,8,9] x.2)=true:=by rfl) (hc:goes cf=true:=by rfl):GF K fr cf Q ⟨sl,[[.d (.int .i64 c.win),.d (.int .i64 c.base),.d (.int .i64 c.nxt),rowV 4 1 u1 (sD c.una) u2,rowV 5 1 w1 (sD c.wai) w2,.d (.int .i64 c.exp),rowV 6 3 e1 (pD c.ear) e2,rowV 7 1 d1 (sD c.del) d2,rowV 8 1 t1 (sD c.tos) t2,rowV 9 1 b1 (sD c.bak) b2],zcel,unk 10,unk 10,flat (u1++sD c.una++u2),flat (w1++sD c.wai++w2),flat (e1++pD c.ear++e2),flat (d1++sD c.del++d2),flat (t1++sD c.tos++t2),flat (b1++sD c.bak++b2)]⟩:=by
 refine gFzL 9 b1 (sD c.bak) b2 1 [4,5,6,7,8,9] rfl rfl hb (by decide) hm0 (by decide) hsl fzT hc ?_
 refine gFzL 8 t1 (sD c.tos) t2 1 [4,5,6,7,8,9] rfl rfl ht (by decide) hm0 (by decide) hsl fzT hc ?_
 refine gFzL 7 d1 (sD c.del) d2 1 [4,5,6,7,8,9] rfl rfl hd (by decide) hm0 (by decide) hsl fzT hc ?_
 refine gFzL 6 e1 (pD c.ear) e2 3 [4,5,6,7,8,9] rfl rfl he (by decide) hm0 (by decide) hsl fzT hc ?_
 refine gFzL 5 w1 (sD c.wai) w2 1 [4,5,6,7,8,9] rfl rfl hw (by decide) hm0 (by decide) hsl fzT hc ?_
 refine gFzL 4 u1 (sD c.una) u2 1 [4,5,6,7,8,9] rfl rfl hu (by decide) hm0 (by decide) hsl fzT hc ?_
 exact hg
theorem gE_t {t1 t2:List D} (ht:∀ x ∈ t1++sD c.tos++t2,x.cells.length=1) (hm0:K.m0.length=0) (hg:GF K fr cf Q ⟨sl,[[.d (.int .i64 c.win),.d (.int .i64 c.base),.d (.int .i64 c.nxt),.d (.sl (sD c.una)),.d (.sl (sD c.wai)),.d (.int .i64 c.exp),.d (.sl (pD c.ear)),.d (.sl (sD c.del)),.d (.sl (sD c.tos)),.d (.sl (sD c.bak))],zcel,unk 10,unk 10,[],[],[],[]]⟩) (hsl:sl.all (fun x=>nrefL [8] x.2)=true:=by rfl) (hc:goes cf=true:=by rfl):GF K fr cf Q ⟨sl,[[.d (.int .i64 c.win),.d (.int .i64 c.base),.d (.int .i64 c.nxt),.d (.sl (sD c.una)),.d (.sl (sD c.wai)),.d (.int .i64 c.exp),.d (.sl (pD c.ear)),.d (.sl (sD c.del)),rowV 8 1 t1 (sD c.tos) t2,.d (.sl (sD c.bak))],zcel,unk 10,unk 10,[],[],[],[],flat (t1++sD c.tos++t2)]⟩:=by
 refine gFzL 8 t1 (sD c.tos) t2 1 [8] rfl rfl ht (by decide) hm0 (by decide) hsl fzT hc ?_
 exact hg
theorem gE_b {b1 b2:List D} (hb:∀ x ∈ b1++sD c.bak++b2,x.cells.length=1) (hm0:K.m0.length=0) (hg:GF K fr cf Q ⟨sl,[[.d (.int .i64 c.win),.d (.int .i64 c.base),.d (.int .i64 c.nxt),.d (.sl (sD c.una)),.d (.sl (sD c.wai)),.d (.int .i64 c.exp),.d (.sl (pD c.ear)),.d (.sl (sD c.del)),.d (.sl (sD c.tos)),.d (.sl (sD c.bak))],zcel,unk 10,unk 10,[],[],[],[],[]]⟩) (hsl:sl.all (fun x=>nrefL [9] x.2)=true:=by rfl) (hc:goes cf=true:=by rfl):GF K fr cf Q ⟨sl,[[.d (.int .i64 c.win),.d (.int .i64 c.base),.d (.int .i64 c.nxt),.d (.sl (sD c.una)),.d (.sl (sD c.wai)),.d (.int .i64 c.exp),.d (.sl (pD c.ear)),.d (.sl (sD c.del)),.d (.sl (sD c.tos)),rowV 9 1 b1 (sD c.bak) b2],zcel,unk 10,unk 10,[],[],[],[],[],flat (b1++sD c.bak++b2)]⟩:=by
 refine gFzL 9 b1 (sD c.bak) b2 1 [9] rfl rfl hb (by decide) hm0 (by decide) hsl fzT hc ?_
 exact hg
theorem gE_db {d1 d2:List D} (hd:∀ x ∈ d1++sD c.del++d2,x.cells.length=1) {b1 b2:List D} (hb:∀ x ∈ b1++sD c.bak++b2,x.cells.length=1) (hm0:K.m0.length=0) (hg:GF K fr cf Q ⟨sl,[[.d (.int .i64 c.win),.d (.int .i64 c.base),.d (.int .i64 c.nxt),.d (.sl (sD c.una)),.d (.sl (sD c.wai)),.d (.int .i64 c.exp),.d (.sl (pD c.ear)),.d (.sl (sD c.del)),.d (.sl (sD c.tos)),.d (.sl (sD c.bak))],zcel,unk 10,unk 10,[],[],[],[],[]]⟩) (hsl:sl.all (fun x=>nrefL [7,9] x.2)=true:=by rfl) (hc:goes cf=true:=by rfl):GF K fr cf Q ⟨sl,[[.d (.int .i64 c.win),.d (.int .i64 c.base),.d (.int .i64 c.nxt),.d (.sl (sD c.una)),.d (.sl (sD c.wai)),.d (.int .i64 c.exp),.d (.sl (pD c.ear)),rowV 7 1 d1 (sD c.del) d2,.d (.sl (sD c.tos)),rowV 9 1 b1 (sD c.bak) b2],zcel,unk 10,unk 10,[],[],[],flat (d1++sD c.del++d2),[],flat (b1++sD c.bak++b2)]⟩:=by
 refine gFzL 9 b1 (sD c.bak) b2 1 [7,9] rfl rfl hb (by decide) hm0 (by decide) hsl fzT hc ?_
 refine gFz1 7 d1 (sD c.del) d2 1 [7,9] rfl hd (by decide) hm0 (by decide) rfl hsl fzT hc ?_
 exact hg
theorem insF_eq (q:Pk):∀ l:List Pk,insF q l=if ∃ x,l[ixE q.nu l]? = some x∧x.nu=q.nu then l else insK l (ixE q.nu l) q
 | []=>by
  rw [if_neg (by rintro ⟨x,h,_⟩;simp at h)];rfl
 | e :: r=>by
  rw [insF]
  by_cases h1:e.nu=q.nu
  · rw [if_pos h1]
    have hx:ixE q.nu (e :: r)=0:=by unfold ixE;rw [if_neg (by omega)]
    rw [if_pos ⟨e,by rw [hx];rfl,h1⟩]
  · rw [if_neg h1]
    by_cases h2:e.nu > q.nu
    · rw [if_pos h2]
      have hx:ixE q.nu (e :: r)=0:=by unfold ixE;rw [if_neg (by omega)]
      rw [hx,if_neg (by rintro ⟨x,hx1,hx2⟩;injection hx1 with hx1;subst hx1;exact h1 hx2)]
      rfl
    · rw [if_neg h2,insF_eq q r]
      have hx:ixE q.nu (e :: r)=ixE q.nu r + 1:=by rw [ixE,if_pos (by omega)]
      rw [hx]
      by_cases h3:∃ x,r[ixE q.nu r]? = some x∧x.nu=q.nu
      · rw [if_pos h3,if_pos (by simpa using h3)]
      · rw [if_neg h3,if_neg (by simpa using h3)]
        rfl
theorem rcvF_eq (h:c.Rcv) (s:ByteArray):rcvF c s=rcvC c s:=by
 unfold rcvF rcvC
 by_cases h1:(deE s == 0 && (deP s).kd == 1)=true
 · rw [if_pos h1,if_neg]
   · unfold rcvG rcvD
     have hw:IntKind.i64.wrap (c.exp + c.win)=c.exp + c.win:=by
      have:=h.exp0;have:=h.exp1;have:=h.win0;have:=h.win1
      exact Y1
     rw [hw]
     generalize deP s=q
     by_cases hA:c.nxt≤q.nu∨q.nu < c.exp
     · rw [if_pos hA,if_neg (by rw [Bool.and_eq_true];rintro ⟨g1,g2⟩;have g1':q.nu=c.exp:=by simpa using g1
                                have:=of_decide_eq_true g2;omega),if_neg (by rw [Bool.and_eq_true,Bool.and_eq_true];rintro ⟨⟨g1,g2⟩,g3⟩;have:=of_decide_eq_true g1;have:=of_decide_eq_true g3;omega)]
     · rw [if_neg hA]
       by_cases hB:q.nu=c.exp
       · rw [if_pos hB,if_pos (by rw [Bool.and_eq_true];exact ⟨by simpa using hB,decide_eq_true (by omega)⟩)]
       · rw [if_neg hB,if_neg (by rw [Bool.and_eq_true];rintro ⟨g1,_⟩;exact hB (by simpa using g1))]
         by_cases hC:q.nu < c.exp + c.win
         · rw [if_pos hC,if_pos (by rw [Bool.and_eq_true,Bool.and_eq_true];exact ⟨⟨decide_eq_true (by omega),decide_eq_true hC⟩,decide_eq_true (by omega)⟩),insF_eq]
           by_cases hD:∃ x,c.ear[ixE q.nu c.ear]? = some x∧x.nu=q.nu
           · rw [if_pos hD,if_pos hD]
           · rw [if_neg hD,if_neg hD];rfl
         · rw [if_neg hC,if_neg (by rw [Bool.and_eq_true,Bool.and_eq_true];rintro ⟨⟨_,g2⟩,_⟩;exact hC (of_decide_eq_true g2))]
   · rw [Bool.and_eq_true] at h1
     obtain ⟨g1,g2⟩:=h1
     have e1:deE s=0:=by simpa using g1
     have e2:(deP s).kd=1:=by simpa using g2
     simp [e1,e2]
 · rw [if_neg h1,if_pos]
   have h2:(deE s == 0 && (deP s).kd == 1)=false:=eq_false_of_ne_true h1
   rw [Bool.and_eq_false_iff] at h2
   rw [Bool.or_eq_true]
   rcases h2 with g | g
   · left;simp at g;simpa using g
   · right;simp at g;simpa using g
end
section
def ActR (c:Ch) (k:Int) (b:Bool) (ix at_:Int) (p:Ch×Int):Prop:=Pf Tryd.prog 23 [c.d,acD k b ix at_] (.tup [.d p.1.d,.d (.int .i64 p.2)])
set_option maxRecDepth 100000 in
theorem c23e1 (c:Ch) (k:Int) (b:Bool) (ix at_:Int) (hs:c.Sm) (hk:chkC c=true):ActR c k b ix at_ (zeroC,331):=by
 have hc:=hs.few
 have hc':=hc
 obtain ⟨h0,h1,h2,h3,h4,h5⟩:=hc'
 have q17:=c17 c (by omega) (by omega) (by omega) (by omega) (by omega) (by omega)
 have q42:=c42 c hc
 rw [if_pos hk] at q17
 unfold ActR acD
 unfold Ch.d at q17 q42 ⊢
 refine pfb Tryd.func23 Tryd.ntmps23 Tryd.results23 (fun S0 O0 w0 m0 hm0=>?_)
 iterate 4 refine s_ ?_
 refine Z8 ?_
 repeat' first | refine s_ ?_ | refine c_ q17 ?_ | fail
 refine Z16 ?_
 repeat' first | refine s_ ?_ | fail
 exact e_
set_option maxRecDepth 100000 in
theorem c23e2 (c:Ch) (k:Int) (b:Bool) (ix at_:Int) (hs:c.Sm) (hkf:chkC c=false) (h:k < 1∨5 < k):ActR c k b ix at_ (zeroC,1):=by
 have hc:=hs.few
 have hc':=hc
 obtain ⟨h0,h1,h2,h3,h4,h5⟩:=hc'
 have q17:=c17 c (by omega) (by omega) (by omega) (by omega) (by omega) (by omega)
 have q42:=c42 c hc
 rw [if_neg (by rw [hkf];decide)] at q17
 unfold ActR acD
 unfold Ch.d at q17 q42 ⊢
 refine pfb Tryd.func23 Tryd.ntmps23 Tryd.results23 (fun S0 O0 w0 m0 hm0=>?_)
 iterate 4 refine s_ ?_
 refine Z8 ?_
 repeat' first | refine s_ ?_ | refine c_ q17 ?_ | fail
 refine Z1 ?_
 repeat' first | refine s_ ?_ | fail
 refine ct (by exact rfl) ?_ (by simp;omega)
 repeat' first | refine s_ ?_ | fail
 exact e_
set_option maxRecDepth 100000 in
theorem c23e3t (c:Ch) (k ix at_:Int) (hs:c.Sm) (hkf:chkC c=false) (hk1:1≤k) (hk5:k < 5) (h:ix < 0∨(c.bak.length:Int)≤ix):ActR c k true ix at_ (zeroC,4):=by
 have hc:=hs.few
 have hc':=hc
 obtain ⟨h0,h1,h2,h3,h4,h5⟩:=hc'
 have q17:=c17 c (by omega) (by omega) (by omega) (by omega) (by omega) (by omega)
 have q42:=c42 c hc
 rw [if_neg (by rw [hkf];decide)] at q17
 unfold ActR acD
 unfold Ch.d at q17 q42 ⊢
 refine pfb Tryd.func23 Tryd.ntmps23 Tryd.results23 (fun S0 O0 w0 m0 hm0=>?_)
 iterate 4 refine s_ ?_
 refine Z8 ?_
 repeat' first | refine s_ ?_ | refine c_ q17 ?_ | fail
 refine Z1 ?_
 repeat' first | refine s_ ?_ | fail
 refine cf (by exact rfl) ?_ (by simp;omega)
 repeat' first | refine s_ ?_ | fail
 refine cn (by exact rfl) q42 (r':=.agg (ChA c p0 4 5 7 8 9 6)) (mem':=(chD c :: zcel :: unk 10 :: unk 10 :: ChRr c p0)) ?_ rfl ?_
 rotate_left
 · rw [List.map_append,ChRr_rens];rfl
 repeat' first | refine s_ ?_ | fail
 refine kp [(2,.ref 0 0),(3,.d (.ptr (.agg [.int .i64 k,.bool true,.int .i64 ix,.int .i64 at_]))),(4,.ref 1 0),(5,.d (.int .i64 0)),(29,.d (.bool (k == 5)))] ⟨rfl,rfl,rfl,rfl,rfl,trivial⟩ ?_
 refine Z0 ?_;refine Z2 ?_
 refine cf (by exact rfl) ?_ (by simp;omega)
 repeat' first | refine s_ ?_ | fail
 refine Z16 ?_
 repeat' first | refine s_ ?_ | fail
 refine ct (by exact rfl) ?_ (by rw [sD_len];simp;omega)
 repeat' first | refine s_ ?_ | fail
 exact e_
set_option maxRecDepth 100000 in
theorem c23e3f (c:Ch) (k ix at_:Int) (hs:c.Sm) (hkf:chkC c=false) (hk1:1≤k) (hk5:k < 5) (h:ix < 0∨(c.tos.length:Int)≤ix):ActR c k false ix at_ (zeroC,4):=by
 have hc:=hs.few
 have hc':=hc
 obtain ⟨h0,h1,h2,h3,h4,h5⟩:=hc'
 have q17:=c17 c (by omega) (by omega) (by omega) (by omega) (by omega) (by omega)
 have q42:=c42 c hc
 rw [if_neg (by rw [hkf];decide)] at q17
 unfold ActR acD
 unfold Ch.d at q17 q42 ⊢
 refine pfb Tryd.func23 Tryd.ntmps23 Tryd.results23 (fun S0 O0 w0 m0 hm0=>?_)
 iterate 4 refine s_ ?_
 refine Z8 ?_
 repeat' first | refine s_ ?_ | refine c_ q17 ?_ | fail
 refine Z1 ?_
 repeat' first | refine s_ ?_ | fail
 refine cf (by exact rfl) ?_ (by simp;omega)
 repeat' first | refine s_ ?_ | fail
 refine cn (by exact rfl) q42 (r':=.agg (ChA c p0 4 5 7 8 9 6)) (mem':=(chD c :: zcel :: unk 10 :: unk 10 :: ChRr c p0)) ?_ rfl ?_
 rotate_left
 · rw [List.map_append,ChRr_rens];rfl
 repeat' first | refine s_ ?_ | fail
 refine kp [(2,.ref 0 0),(3,.d (.ptr (.agg [.int .i64 k,.bool false,.int .i64 ix,.int .i64 at_]))),(4,.ref 1 0),(5,.d (.int .i64 0)),(29,.d (.bool (k == 5)))] ⟨rfl,rfl,rfl,rfl,rfl,trivial⟩ ?_
 refine Z0 ?_;refine Z2 ?_
 refine cf (by exact rfl) ?_ (by simp;omega)
 repeat' first | refine s_ ?_ | fail
 refine Z1 ?_
 repeat' first | refine s_ ?_ | fail
 refine ct (by exact rfl) ?_ (by rw [sD_len];simp;omega)
 repeat' first | refine s_ ?_ | fail
 exact e_
theorem pushT_eq (l:List ByteArray) (q:Pk):sentL l q=pushT l q:=by
 unfold sentL pushT
 by_cases h:l.length < 200
 · rw [if_pos h,if_neg (by omega)]
 · rw [if_neg h,if_pos (by omega)]
set_option maxRecDepth 100000 in
theorem c23_5 (c:Ch) (b:Bool) (ix at_:Int) (hs:c.Sm) (hkf:chkC c=false):ActR c 5 b ix at_ (tickC c,0):=by
 have hc:=hs.few
 have hc':=hc
 obtain ⟨h0,h1,h2,h3,h4,h5⟩:=hc'
 have q17:=c17 c (by omega) (by omega) (by omega) (by omega) (by omega) (by omega)
 have q42:=c42 c hc
 rw [if_neg (by rw [hkf];decide)] at q17
 unfold ActR acD
 unfold Ch.d at q17 q42 ⊢
 refine pfb Tryd.func23 Tryd.ntmps23 Tryd.results23 (fun S0 O0 w0 m0 hm0=>?_)
 iterate 4 refine s_ ?_
 refine Z8 ?_
 repeat' first | refine s_ ?_ | refine c_ q17 ?_ | fail
 refine Z1 ?_
 repeat' first | refine s_ ?_ | fail
 refine Z1 ?_
 repeat' first | refine s_ ?_ | fail
 refine cn (by exact rfl) q42 (r':=.agg (ChA c p0 4 5 7 8 9 6)) (mem':=(chD c :: zcel :: unk 10 :: unk 10 :: ChRr c p0)) ?_ rfl ?_
 rotate_left
 · rw [List.map_append,ChRr_rens];rfl
 repeat' first | refine s_ ?_ | fail
 refine kp [(2,.ref 0 0),(3,.d (.ptr (.agg [.int .i64 5,.bool b,.int .i64 ix,.int .i64 at_]))),(4,.ref 1 0),(5,.d (.int .i64 0)),(29,.d (.bool true))] ⟨rfl,rfl,rfl,rfl,rfl,trivial⟩ ?_
 refine Z0 ?_;refine Z13 ?_;refine Z16 ?_
 repeat' first | refine s_ ?_ | fail
 refine gLo (fun x:Nat×List ByteArray×List D×List D=>⟨[(2,.ref 0 0),(4,.ref 1 0),(7,.d (.int .i64 (x.1:Int)))],[ChT { c with tos:=x.2.1 } x.2.2.1 x.2.2.2 8,zcel,unk 10,unk 10,[],[],[],[],flat (x.2.2.1++sD x.2.1++x.2.2.2)]⟩) (fun x=>c.una.length - x.1) (fun x=>x.1≤c.una.length∧(∀ y ∈ x.2.2.1,y.cells.length=1)∧(∀ y ∈ x.2.2.2,y.cells.length=1)∧tickL c.base 0 c.una c.tos=tickL c.base x.1 (c.una.drop x.1) x.2.1) (0,c.tos,[],[]) ⟨Nat.zero_le _,(by simp),(by simp),rfl⟩ ?_ (fun x hx Q' hn he hr hp=>?_)
 · exact Le_of (by rw [hm0];exact Nat.zero_le _) (.cons CSa (.cons CSa (.cons (CSub_unk _ (unk 10)) (.cons (CSub_unk _ (unk 10)) (.cons .nil (.cons .nil (.cons .nil (.cons .nil (.cons (CSub_flat _ _) .nil))))))))) SSa
 obtain ⟨z,T,a,b2⟩:=x
 obtain ⟨hz,ha,hb2,hinv⟩:=hx
 dsimp only at hz ha hb2 hinv ⊢
 repeat' first | refine s_ ?_ | fail
 refine d_ (fun hb=>?_) (fun hb=>?_)
 · have hlt:z < c.una.length:=by have:=oR hb;rw [sD_len] at this;dsimp only at this;omega
   obtain ⟨m,hm⟩:∃ m,c.una[z]? = some m:=⟨_,gE hlt⟩
   have hpe:(sD c.una)[z]? = some (.str m):=sD_get hm
   rw [drop_get hm,tickL] at hinv
   rw [← pushT_eq] at hinv
   have q43:=c43 T ⟨1,IntKind.i64.wrap (c.base + (z:Int)),m⟩ a b2 ha hb2
   unfold Pk.d at q43
   repeat' first | refine s_ ?_ | fail
   refine kp [(2,.ref 0 0),(4,.ref 1 0),(7,.d (.int .i64 (z:Int)))] ⟨rfl,rfl,rfl,trivial⟩ ?_
   generalize hw:IntKind.i64.wrap (c.base + (z:Int))=wz at q43 hinv
   refine gTab (A:={ q:List D×List D // (∀ y ∈ q.1,y.cells.length=1)∧(∀ y ∈ q.2,y.cells.length=1) }) (m1:=fun q=>[(ChT { c with tos:=T } a b2 8).set 8 .undef,zcel,unk 10,unk 10,[],[],[],[],flat (q.1.1++sD (sentL T ⟨1,wz,m⟩)++q.1.2)]) (m2:=fun q=>[ChT { c with tos:=sentL T ⟨1,wz,m⟩ } q.1.1 q.1.2 8,zcel,unk 10,unk 10,[],[],[],[],flat (q.1.1++sD (sentL T ⟨1,wz,m⟩)++q.1.2)])
    12 14 [(1,12)] (nrefL [8]) [(0,37,.ref 0 8),(1,38,rowV 8 1 a (sD T) b2),(2,39,.ref 0 1),(3,40,.d (.int .i64 c.base)),(4,41,.d (.int .i64 (z:Int))),(5,42,.d (.int .i64 wz)),(6,43,.ref 0 3),(7,44,.d (.sl (sD c.una))),(8,45,.d (.int .i64 (z:Int))),(9,46,.d (.ptr (.str m))),(10,47,.d (.str m)),(11,48,.d (.agg [.int .i64 1,.int .i64 wz,.str m]))]
    [(13,50,.ref 0 8)] 49 (fun q=>rowV 8 1 q.1.1 (sD (sentL T ⟨1,wz,m⟩)) q.1.2) ⟨(a,b2),ha,hb2⟩ [0,1,2,3,4,5,6,7,8,9,10,11,13,14]
    (by exact rfl) mixed (by kernel_rfl) rfl (by kernel_rfl) rfl rfl rfl rfl rfl rfl rfl (by exact rfl) (fun rest Q' hQ=>?_) (fun q=>?_) rfl (by kernel_rfl) (fun q h=>absurd h (by decide)) (fun q=>?_)
   · refine gCell 0 8 rfl rfl ?_ rfl rfl
     refine gJ (jn:=0) [8] (by exact rfl) q43 rfl (by decide) (fun b hb=>?_) ?_ rfl ?_ (fun b hb=>?_) ?_ ?_
     · rw [List.mem_singleton] at hb;subst hb
       exact Y11
     · show [_]=_
       exact Y3
     · show (_ && _)=true
       rw [refs_flat];rfl
     · rw [hm0];exact Nat.zero_le _
     · simp only [List.set_cons_zero,List.set_cons_succ,nrefLM,PV.nrefs,PV.nref,nrefs_flat,List.drop_zero,List.all_cons,List.all_nil,Bool.or_true,Bool.true_and,Bool.and_true]<;>rfl
     · rintro q mm ⟨pre',post',g1,g2,rfl,rfl⟩ _
       have e1:∀ f:Nat→Nat,(List.take [8].length [flat (pre'++sD (sentL T ⟨1,wz,m⟩)++post')]).map (PV.rens f)=[flat (pre'++sD (sentL T ⟨1,wz,m⟩)++post')]:=fun f=>by
        show [PV.rens f (flat _)]=_
        rw [rens_flat]
       unfold stJ
       rw [e1]
       exact hQ ⟨(pre',post'),g1,g2⟩
   · refine ⟨?_,?_,?_,?_,?_,?_,?_,?_,?_,?_,?_,?_,?_,?_,trivial⟩
     iterate 5 exact ta_
     · exact ta (p:=.d (.int .i64 wz)) (by exact rfl) (by exact rfl) rfl rfl (by kernel_rfl) (by subst hw;exact fun _=>rfl)
     iterate 3 exact ta_
     · exact ti (by exact rfl) (by exact rfl) rfl rfl (by kernel_rfl) (by exact fun _=>rfl) ⟨by omega,hpe,rfl⟩ (by exact Nat.le_refl 1)
     iterate 2 exact ta_
     · exact tb (by exact rfl) (by exact rfl) rfl rfl (by kernel_rfl) (by kernel_rfl) (by exact fun _=>rfl)
     · exact ts (by exact rfl) (by exact rfl) rfl (by kernel_rfl) (by exact fun _=>rfl)
   · repeat' first | refine s_ ?_ | fail
     rw [show IntKind.i64.wrap ((z:Int) + 1)=((z + 1:Nat):Int) by rw [wrap_i64 (by omega) (by omega)];rfl]
     exact toL (hn _ (z + 1,sentL T ⟨1,wz,m⟩,q.1.1,q.1.2) ⟨hlt,q.2.1,q.2.2,hinv⟩ (by dsimp only;omega) (Le_0 hm0 (.cons CSa (.cons CSa (.cons (CSub_unk _ (unk 10)) (.cons (CSub_unk _ (unk 10)) (.cons .nil (.cons .nil (.cons .nil (.cons .nil (.cons (CSub_flat _ _) .nil))))))))) SSa))
 · have hle:c.una.length≤z:=by have:=of_decide_eq_false hb;rw [sD_len] at this;dsimp only at this;omega
   rw [List.drop_eq_nil_of_le hle,tickL] at hinv
   repeat' first | refine s_ ?_ | fail
   refine Z15 ?_
   iterate 2 refine s_ ?_
   refine Z27 ?_
   have ht:tickC c={ c with tos:=T }:=by unfold tickC;rw [hinv]
   rw [ht]
   refine gE_t (c:={ c with tos:=T }) (row_k ha (sD_k _) hb2) hm0 ?_
   repeat' first | refine s_ ?_ | fail
   exact e_
end
section
set_option maxRecDepth 100000 in
theorem c23_2b (c:Ch) (i:Nat) (at_:Int) {x:ByteArray} (hs:c.Sm) (hkf:chkC c=false) (hx:c.bak[i]? = some x):ActR c 2 true (i:Int) at_ ({ c with bak:=c.bak.eraseIdx i },0):=by
 have hi:i < c.bak.length:=(lG hx)
 have hr:=rt_of hs hkf
 have hrcv:=rcv_of hs hr
 have hxD:=sD_get hx
 have hc:=hs.few
 have hc':=hc
 obtain ⟨h0,h1,h2,h3,h4,h5⟩:=hc'
 have q17:=c17 c (by omega) (by omega) (by omega) (by omega) (by omega) (by omega)
 have q42:=c42 c hc
 rw [if_neg (by rw [hkf];decide)] at q17
 unfold ActR acD
 unfold Ch.d at q17 q42 ⊢
 refine pfb Tryd.func23 Tryd.ntmps23 Tryd.results23 (fun S0 O0 w0 m0 hm0=>?_)
 iterate 4 refine s_ ?_
 refine Z8 ?_
 repeat' first | refine s_ ?_ | refine c_ q17 ?_ | fail
 have q50:=c50 c.bak i hi (by omega)
 refine Z1 ?_
 repeat' first | refine s_ ?_ | fail
 refine Z1 ?_
 repeat' first | refine s_ ?_ | fail
 refine cn (by exact rfl) q42 (r':=.agg (ChA c p0 4 5 7 8 9 6)) (mem':=(chD c :: zcel :: unk 10 :: unk 10 :: ChRr c p0)) ?_ rfl ?_
 rotate_left
 · rw [List.map_append,ChRr_rens];rfl
 repeat' first | refine s_ ?_ | fail
 refine kp [(2,.ref 0 0),(3,.d (.ptr (.agg [.int .i64 2,.bool true,.int .i64 (i:Int),.int .i64 at_]))),(4,.ref 1 0),(5,.d (.int .i64 0)),(29,.d (.bool false))] ⟨rfl,rfl,rfl,rfl,rfl,trivial⟩ ?_
 refine Z0 ?_;refine Z2 ?_;refine Z1 ?_
 repeat' first | refine s_ ?_ | fail
 refine Z16 ?_
 repeat' first | refine s_ ?_ | fail
 refine cf (by exact rfl) ?_ (by rw [sD_len];simp;omega)
 repeat' first | refine s_ ?_ | refine el (by exact rfl) hxD ?_ | refine c_ q50 ?_ | fail
 refine Z1 ?_
 repeat' first | refine s_ ?_ | fail
 refine Z16 ?_
 repeat' first | refine s_ ?_ | fail
 refine c_ q50 ?_
 repeat' first | refine s_ ?_ | fail
 refine Z16 ?_
 repeat' first | refine s_ ?_ | fail
 refine Z1 ?_
 repeat' first | refine s_ ?_ | fail
 refine Z1 ?_
 repeat' first | refine s_ ?_ | fail
 exact e_
set_option maxRecDepth 100000 in
theorem c23_1b (c:Ch) (i:Nat) (at_:Int) {x:ByteArray} (hs:c.Sm) (hkf:chkC c=false) (hx:c.bak[i]? = some x):ActR c 1 true (i:Int) at_ (ackC { c with bak:=c.bak.eraseIdx i } x,0):=by
 have hi:i < c.bak.length:=(lG hx)
 have hr:=rt_of hs hkf
 have hrcv:=rcv_of hs hr
 have hxD:=sD_get hx
 have hc:=hs.few
 have hc':=hc
 obtain ⟨h0,h1,h2,h3,h4,h5⟩:=hc'
 have q17:=c17 c (by omega) (by omega) (by omega) (by omega) (by omega) (by omega)
 have q42:=c42 c hc
 rw [if_neg (by rw [hkf];decide)] at q17
 unfold ActR acD
 unfold Ch.d at q17 q42 ⊢
 refine pfb Tryd.func23 Tryd.ntmps23 Tryd.results23 (fun S0 O0 w0 m0 hm0=>?_)
 iterate 4 refine s_ ?_
 refine Z8 ?_
 repeat' first | refine s_ ?_ | refine c_ q17 ?_ | fail
 have q50:=c50 c.bak i hi (by omega)
 have hle:(c.bak.eraseIdx i).length≤1000000:=by rw [List.length_eraseIdx];split<;>omega
 have hf1:Ch.Few { c with bak:=c.bak.eraseIdx i }:={ hc with bak:=hle }
 have q51:=c51 { c with bak:=c.bak.eraseIdx i } x [] [] (by simp) (by simp) hf1 (by show c.win≤_;have:=hrcv.win1;omega) (by show 0≤c.base;exact hr.base0) (by show c.exp≤c.base + (c.una.length:Int);have:=hr.exp1;have:=hr.una;omega)
 refine Z1 ?_
 repeat' first | refine s_ ?_ | fail
 refine Z1 ?_
 repeat' first | refine s_ ?_ | fail
 refine cn (by exact rfl) q42 (r':=.agg (ChA c p0 4 5 7 8 9 6)) (mem':=(chD c :: zcel :: unk 10 :: unk 10 :: ChRr c p0)) ?_ rfl ?_
 rotate_left
 · rw [List.map_append,ChRr_rens];rfl
 repeat' first | refine s_ ?_ | fail
 refine kp [(2,.ref 0 0),(3,.d (.ptr (.agg [.int .i64 1,.bool true,.int .i64 (i:Int),.int .i64 at_]))),(4,.ref 1 0),(5,.d (.int .i64 0)),(29,.d (.bool false))] ⟨rfl,rfl,rfl,rfl,rfl,trivial⟩ ?_
 refine Z0 ?_;refine Z13 ?_;refine Z1 ?_
 repeat' first | refine s_ ?_ | fail
 refine Z16 ?_
 repeat' first | refine s_ ?_ | fail
 refine cf (by exact rfl) ?_ (by rw [sD_len];simp;omega)
 repeat' first | refine s_ ?_ | refine el (by exact rfl) hxD ?_ | fail
 refine Z16 ?_
 repeat' first | refine s_ ?_ | fail
 refine Z16 ?_
 repeat' first | refine s_ ?_ | fail
 refine c_ q50 ?_
 repeat' first | refine s_ ?_ | fail
 refine Z16 ?_
 repeat' first | refine s_ ?_ | fail
 refine Z16 ?_
 repeat' first | refine s_ ?_ | fail
 refine gCell 0 8 rfl rfl ?_ rfl rfl
 refine gJ (jn:=0) [8] (by exact rfl) q51 rfl (by decide) (fun b hb=>?_) ?_ rfl ?_ (fun b hb=>?_) ?_ ?_
 · rw [List.mem_singleton] at hb;subst hb
   exact Y11
 · show [_]=_
   exact Y3
 · show (_ && _)=true
   rw [refs_flat];rfl
 · rw [hm0];exact Nat.zero_le _
 · simp only [List.set_cons_zero,List.set_cons_succ,nrefLM,PV.nrefs,PV.nref,nrefs_flat,List.drop_zero,List.all_cons,List.all_nil,Bool.or_true,Bool.true_and,Bool.and_true]<;>rfl
 · rintro q mm ⟨a,b,ha,hb,rfl,rfl⟩ _
   generalize hF:ackC { c with bak:=c.bak.eraseIdx i } x=F
   have e1:∀ f:Nat→Nat,(List.take [8].length [flat (a++sD F.tos++b)]).map (PV.rens f)=[flat (a++sD F.tos++b)]:=fun f=>by
    show [PV.rens f (flat _)]=_
    rw [rens_flat]
   unfold stJ
   rw [e1]
   refine (show GF _ _ _ _ ⟨(129,.agg (ChT F a b 8)) :: _,_⟩ from ?_)
   refine Z17 ?_;refine Z27 ?_
   refine gE_t (c:=F) (row_k ha (sD_k _) hb) hm0 ?_
   repeat' first | refine s_ ?_ | fail
   exact e_
set_option maxRecDepth 100000 in
theorem c23_2t (c:Ch) (i:Nat) (at_:Int) {x:ByteArray} (hs:c.Sm) (hkf:chkC c=false) (hx:c.tos[i]? = some x):ActR c 2 false (i:Int) at_ ({ c with tos:=c.tos.eraseIdx i },0):=by
 have hi:i < c.tos.length:=(lG hx)
 have hr:=rt_of hs hkf
 have hrcv:=rcv_of hs hr
 have hxD:=sD_get hx
 have hc:=hs.few
 have hc':=hc
 obtain ⟨h0,h1,h2,h3,h4,h5⟩:=hc'
 have q17:=c17 c (by omega) (by omega) (by omega) (by omega) (by omega) (by omega)
 have q42:=c42 c hc
 rw [if_neg (by rw [hkf];decide)] at q17
 unfold ActR acD
 unfold Ch.d at q17 q42 ⊢
 refine pfb Tryd.func23 Tryd.ntmps23 Tryd.results23 (fun S0 O0 w0 m0 hm0=>?_)
 iterate 4 refine s_ ?_
 refine Z8 ?_
 repeat' first | refine s_ ?_ | refine c_ q17 ?_ | fail
 have q50:=c50 c.tos i hi (by omega)
 refine Z1 ?_
 repeat' first | refine s_ ?_ | fail
 refine Z1 ?_
 repeat' first | refine s_ ?_ | fail
 refine cn (by exact rfl) q42 (r':=.agg (ChA c p0 4 5 7 8 9 6)) (mem':=(chD c :: zcel :: unk 10 :: unk 10 :: ChRr c p0)) ?_ rfl ?_
 rotate_left
 · rw [List.map_append,ChRr_rens];rfl
 repeat' first | refine s_ ?_ | fail
 refine kp [(2,.ref 0 0),(3,.d (.ptr (.agg [.int .i64 2,.bool false,.int .i64 (i:Int),.int .i64 at_]))),(4,.ref 1 0),(5,.d (.int .i64 0)),(29,.d (.bool false))] ⟨rfl,rfl,rfl,rfl,rfl,trivial⟩ ?_
 refine Z0 ?_;refine Z2 ?_;refine Z1 ?_
 repeat' first | refine s_ ?_ | fail
 refine Z1 ?_
 repeat' first | refine s_ ?_ | fail
 refine cf (by exact rfl) ?_ (by rw [sD_len];simp;omega)
 repeat' first | refine s_ ?_ | refine el (by exact rfl) hxD ?_ | refine c_ q50 ?_ | fail
 refine Z1 ?_
 repeat' first | refine s_ ?_ | fail
 refine Z16 ?_
 repeat' first | refine s_ ?_ | fail
 refine c_ q50 ?_
 repeat' first | refine s_ ?_ | fail
 refine Z1 ?_
 repeat' first | refine s_ ?_ | fail
 refine Z1 ?_
 repeat' first | refine s_ ?_ | fail
 refine Z1 ?_
 repeat' first | refine s_ ?_ | fail
 exact e_
set_option maxRecDepth 100000 in
theorem c23_1t (c:Ch) (i:Nat) (at_:Int) {x:ByteArray} (hs:c.Sm) (hkf:chkC c=false) (hx:c.tos[i]? = some x):ActR c 1 false (i:Int) at_ (rcvC { c with tos:=c.tos.eraseIdx i } x,0):=by
 have hi:i < c.tos.length:=(lG hx)
 have hr:=rt_of hs hkf
 have hrcv:=rcv_of hs hr
 have hxD:=sD_get hx
 have hc:=hs.few
 have hc':=hc
 obtain ⟨h0,h1,h2,h3,h4,h5⟩:=hc'
 have q17:=c17 c (by omega) (by omega) (by omega) (by omega) (by omega) (by omega)
 have q42:=c42 c hc
 rw [if_neg (by rw [hkf];decide)] at q17
 unfold ActR acD
 unfold Ch.d at q17 q42 ⊢
 refine pfb Tryd.func23 Tryd.ntmps23 Tryd.results23 (fun S0 O0 w0 m0 hm0=>?_)
 iterate 4 refine s_ ?_
 refine Z8 ?_
 repeat' first | refine s_ ?_ | refine c_ q17 ?_ | fail
 have q50:=c50 c.tos i hi (by omega)
 have hle:(c.tos.eraseIdx i).length≤1000000:=by rw [List.length_eraseIdx];split<;>omega
 have hf1:Ch.Few { c with tos:=c.tos.eraseIdx i }:={ hc with tos:=hle }
 have hr1:Ch.Rcv { c with tos:=c.tos.eraseIdx i }:={ hrcv with few:=hf1 }
 have q52:=c52 { c with tos:=c.tos.eraseIdx i } x [] [] [] [] ⟨by simp,by simp,by simp,by simp⟩ hf1 hrcv.del
 rw [rcvF_eq hr1] at q52
 refine Z1 ?_
 repeat' first | refine s_ ?_ | fail
 refine Z1 ?_
 repeat' first | refine s_ ?_ | fail
 refine cn (by exact rfl) q42 (r':=.agg (ChA c p0 4 5 7 8 9 6)) (mem':=(chD c :: zcel :: unk 10 :: unk 10 :: ChRr c p0)) ?_ rfl ?_
 rotate_left
 · rw [List.map_append,ChRr_rens];rfl
 repeat' first | refine s_ ?_ | fail
 refine kp [(2,.ref 0 0),(3,.d (.ptr (.agg [.int .i64 1,.bool false,.int .i64 (i:Int),.int .i64 at_]))),(4,.ref 1 0),(5,.d (.int .i64 0)),(29,.d (.bool false))] ⟨rfl,rfl,rfl,rfl,rfl,trivial⟩ ?_
 refine Z0 ?_
 refine gK_db (row_k (by simp) (sD_k _) (by simp)) (row_k (by simp) (sD_k _) (by simp)) (row_k (by simp) (pD_k _) (by simp)) (row_k (by simp) (sD_k _) (by simp)) hm0 ?_
 refine Z1 ?_
 repeat' first | refine s_ ?_ | fail
 refine Z1 ?_
 repeat' first | refine s_ ?_ | fail
 refine cf (by exact rfl) ?_ (by rw [sD_len];simp;omega)
 repeat' first | refine s_ ?_ | refine el (by exact rfl) hxD ?_ | fail
 refine Z16 ?_
 repeat' first | refine s_ ?_ | fail
 refine Z16 ?_
 repeat' first | refine s_ ?_ | fail
 refine c_ q50 ?_
 repeat' first | refine s_ ?_ | fail
 refine Z1 ?_
 repeat' first | refine s_ ?_ | fail
 refine Z1 ?_
 repeat' first | refine s_ ?_ | fail
 refine Z16 ?_
 repeat' first | refine s_ ?_ | fail
 refine gCell 0 7 rfl rfl ?_ rfl rfl
 refine gCell 0 9 rfl rfl ?_ rfl rfl
 refine gJ (jn:=0) [7,9] (by exact rfl) q52 rfl (by decide) (fun b hb=>?_) ?_ rfl ?_ (fun b hb=>?_) ?_ ?_
 · have:b < 10:=by
    have h:∀ b ∈ [7,9],b < 10:=by decide
    exact h b hb
   exact this
 · show [_,_]=_
   rw [List.map_cons,List.map_cons,List.map_nil,rens_flat,rens_flat];rfl
 · show (_ && (_ && _))=true
   rw [refs_flat,refs_flat];rfl
 · rw [hm0];exact Nat.zero_le _
 · simp only [List.set_cons_zero,List.set_cons_succ,nrefLM,PV.nrefs,PV.nref,nrefs_flat,List.drop_zero,List.all_cons,List.all_nil,Bool.or_true,Bool.true_and,Bool.and_true]<;>rfl
 · rintro q mm ⟨d1,d2,b1,b2,hok,rfl,rfl⟩ _
   generalize hF:rcvC { c with tos:=c.tos.eraseIdx i } x=F
   have e1:∀ f:Nat→Nat,(List.take [7,9].length [flat (d1++sD F.del++d2),flat (b1++sD F.bak++b2)]).map (PV.rens f)=[flat (d1++sD F.del++d2),flat (b1++sD F.bak++b2)]:=fun f=>by
    show [PV.rens f (flat _),PV.rens f (flat _)]=_
    rw [rens_flat,rens_flat]
   unfold stJ
   rw [e1]
   refine (show GF _ _ _ _ ⟨(135,.agg (ChDB F d1 d2 b1 b2 7 9)) :: _,_⟩ from ?_)
   refine Z17 ?_;refine Z27 ?_
   refine gE_db (c:=F) (row_k hok.1 (sD_k _) hok.2.1) (row_k hok.2.2.1 (sD_k _) hok.2.2.2) hm0 ?_
   repeat' first | refine s_ ?_ | fail
   exact e_
end
end Go.Proofs.YtoonleefemkalaaDoor
