import Derived.Test.YtoonleefemkalaaDoorM23
import Derived.Test.YtoonleefemkalaaDoorM20
import Derived.WalkKit
import Derived.LaidEql
import Derived.Stop.Asserts
import Derived.RowKitTokens
import Derived.Test.YtoonleefemkalaaDoorM16
import Derived.Test.YtoonleefemkalaaDoorM17
/- Contracts of functions. Conditions: none. -/
set_option linter.unusedSimpArgs false
set_option linter.unusedVariables false
set_option maxRecDepth 20000
namespace Go.Proofs.YtoonleefemkalaaDoor
open Go Go.Proofs.YtoonleefemkalaaDoor.E
section
def aT:ByteArray:=⟨#[97]⟩
def c1:Ch:=nextC (newC 1) aT
def c2:Ch:=recZ { c1 with tos:=[] } (enC ⟨1,0,aT⟩)
theorem c1_tos:c1.tos=[enC ⟨1,0,aT⟩]:=by kernel_rfl
theorem c1_few:c1.Few:=by
 refine ⟨?_,?_,?_,?_,?_,?_⟩<;>decide +kernel
theorem newC_few:(newC 1).Few:=by
 refine ⟨?_,?_,?_,?_,?_,?_⟩<;>decide +kernel
theorem chkA:chkC c1=false:=by decide +kernel
theorem de1:deE (enC ⟨1,0,aT⟩)=0:=by decide +kernel
theorem dp1:deP (enC ⟨1,0,aT⟩)=⟨1,0,aT⟩:=by kernel_rfl
theorem c2_del:c2.del=[aT]:=by kernel_rfl
theorem c2_bak:c2.bak.length=1:=by kernel_rfl
theorem send1:sendS (newC 1) aT=c1:=by kernel_rfl
theorem send1e:sendE (newC 1) aT=0:=by decide +kernel
theorem c45a:Mt 45 [.ref 0 0,.d (acD 1 false 0 0)] c1 (.d (.int .i64 0)) c2:=by
 have h:=c45z c1 1 0 0 (x:=enC ⟨1,0,aT⟩) (by rw [c1_tos];rfl) c1_few de1 (by rw [dp1]) (by rw [dp1];decide +kernel) (by decide +kernel) (by decide +kernel)
 have he:(⟨c1.win,c1.base,c1.nxt,c1.una,c1.wai,c1.exp,c1.ear,c1.del,c1.tos.eraseIdx 0,c1.bak⟩:Ch)={ c1 with tos:=[] }:=by rw [c1_tos];rfl
 rw [show ({ c1 with tos:=c1.tos.eraseIdx 0 }:Ch)={ c1 with tos:=[] } from he] at h
 exact h
theorem c21a:Pf Tryd.prog 21 [c1.d,acD 1 false 0 0] (.tup [.d c2.d,.d (.int .i64 0)]):=by
 have h:=c21_1t c1 c2 0 0 0 c1_few chkA (by decide) (by rw [c1_tos];decide) c45a
 rwa [if_pos rfl] at h
theorem c18a:Pf Tryd.prog 18 [(newC 1).d,.str aT] (.tup [.d c1.d,.d (.int .i64 0)]):=by
 have h:=c18 (newC 1) aT newC_few
 rwa [send1,send1e] at h
theorem c24a:Pf Tryd.prog 24 [.int .i64 1] (.tup [.d (newC 1).d,.d (.int .i64 0)]):=c24 1
theorem c9:Pf Tryd.prog 9 [] (.d (.bool true)):=by
 have q24:=c24a
 have q18:=c18a
 have q21:=c21a
 have g1:(newC 1).d=.agg [.int .i64 1,.int .i64 0,.int .i64 0,.sl [],.sl [],.int .i64 0,.sl [],.sl [],.sl [],.sl []]:=rfl
 obtain ⟨b1,hb1⟩:∃ b,c1.bak=b:=⟨_,rfl⟩
 have g2:c1.d=.agg [.int .i64 c1.win,.int .i64 c1.base,.int .i64 c1.nxt,strs c1.una,strs c1.wai,.int .i64 c1.exp,.sl (c1.ear.map Pk.d),strs c1.del,.sl [.str (enC ⟨1,0,aT⟩)],strs c1.bak]:=by
  unfold Ch.d;rw [c1_tos];rfl
 have g3:c2.d=.agg [.int .i64 c2.win,.int .i64 c2.base,.int .i64 c2.nxt,strs c2.una,strs c2.wai,.int .i64 c2.exp,.sl (c2.ear.map Pk.d),.sl [.str aT],strs c2.tos,strs c2.bak]:=by
  unfold Ch.d;rw [c2_del];rfl
 have hbk:=c2_bak
 generalize c2.win=y0 at g3;generalize c2.base=y1 at g3;generalize c2.nxt=y2 at g3;generalize c2.una=y3 at g3;generalize c2.wai=y4 at g3;generalize c2.exp=y5 at g3;generalize c2.ear=y6 at g3;generalize c2.tos=y7 at g3;generalize c2.bak=y8 at g3 hbk
 generalize c1.win=z0 at g2;generalize c1.base=z1 at g2;generalize c1.nxt=z2 at g2;generalize c1.una=z3 at g2;generalize c1.wai=z4 at g2;generalize c1.exp=z5 at g2;generalize c1.ear=z6 at g2;generalize c1.del=z7 at g2;generalize c1.bak=z8 at g2
 rw [g1] at q24 q18
 rw [g2] at q18 q21
 rw [g3] at q21
 unfold acD at q21
 refine pfb Tryd.func9 Tryd.ntmps9 Tryd.results9 (fun S0 O0 w0 m0 hm0=>?_)
 repeat' first | refine s_ ?_ | refine c_ q24 ?_ | fail
 refine Z1 ?_
 repeat' first | refine s_ ?_ | refine c_ q18 ?_ | fail
 refine Z1 ?_
 repeat' first | refine s_ ?_ | refine c_ q21 ?_ | fail
 refine elg (.str aT) (by exact rfl) (fun _=>⟨by decide,by rfl,by rfl⟩) ?_
 repeat' first | refine s_ ?_ | fail
 exact en (by exact rfl) (by
  have:(y8.map D.str).length=1:=by rw [List.length_map];exact hbk
  simp [this];rfl)
end
section
theorem c3 (p:Pk) (s:ByteArray):Pf Tryd.prog 3 [p.d,.str s] (.d (.bool true)):=by
 have q10:=c10 p
 have q11:=c11 p
 have q12:=c12 s
 have q13:=c13 s
 rw [deRP_eq,deRE_eq] at q13
 unfold Pk.d at q10 q11 q12 q13 ⊢
 refine pfb Tryd.func3 Tryd.ntmps3 Tryd.results3 (fun S0 O0 w0 m0 hm0=>?_)
 repeat' first | refine s_ ?_ | fail
 refine d_ (fun hb=>?_) (fun hb=>?_)
 · repeat' first | refine s_ ?_ | refine c_ c9 ?_ | fail
   exact e_
 · repeat' first | refine s_ ?_ | refine c_ q10 ?_ | refine c_ q11 ?_ | fail
   refine cf (by exact rfl) ?_ (by simp)
   repeat' first | refine s_ ?_ | refine c_ q12 ?_ | refine c_ q13 ?_ | refine clg (by exact rfl) (fun _=>c9) ?_ | fail
   exact en (by exact rfl) (by simp)
theorem enB_head (p:Pk):(enB p).extract 0 12=strOfNums ([114,100,p.kd % 256]++be4 p.nu++be4 p.bo.size++[58]):=by
 unfold enB
 exact ByteArray.extract_append_eq_left (by rw [strOfNums_size];rfl)
theorem enB_size (p:Pk):(enB p).size=12 + p.bo.size:=by
 unfold enB
 rw [ByteArray.size_append,strOfNums_size];rfl
theorem enB_tail (p:Pk):(enB p).extract 12 (enB p).size=p.bo:=by
 have h:=enB_size p
 rw [h]
 unfold enB
 exact ByteArray.extract_append_eq_right (by rw [strOfNums_size];rfl) (by rw [strOfNums_size];rfl)
theorem enB_byt (p:Pk):[byt (enB p) 0,byt (enB p) 1,byt (enB p) 2,byt (enB p) 3,byt (enB p) 4,byt (enB p) 5,byt (enB p) 6,byt (enB p) 7,byt (enB p) 8,byt (enB p) 9,byt (enB p) 10,byt (enB p) 11]=[114,100,p.kd % 256]++be4 p.nu++be4 p.bo.size++[58]:=by
 have h:=head_eq (enB p) (by rw [enB_size];omega)
 rw [enB_head] at h
 refine strOfNums_inj _ _ (fun x hx=>?_) (fun x hx=>?_) (congrArg (fun b:ByteArray=>b.data.toList) h.symm)
 · simp only [List.mem_cons,List.not_mem_nil,or_false] at hx
   rcases hx with rfl | rfl | rfl | rfl | rfl | rfl | rfl | rfl | rfl | rfl | rfl | rfl<;>exact byt_lt (enB p) _
 · simp only [List.mem_append,List.mem_cons,List.not_mem_nil,or_false] at hx
   rcases hx with (((rfl | rfl | rfl) | hx) | hx) | rfl
   · decide
   · decide
   · omega
   · exact be4_lt _ x hx
   · exact be4_lt _ x hx
   · decide
variable {p:Pk}
theorem right_bd (h:p.right=true):0≤p.nu∧p.nu≤1000000000∧(p.kd=1∨p.kd=2):=by
 unfold Pk.right at h
 rw [Bool.and_eq_true,Bool.not_eq_true',Bool.or_eq_false_iff] at h
 obtain ⟨⟨h1,h2⟩,h3⟩:=h
 have h1:=of_decide_eq_false h1
 have h2:=of_decide_eq_false h2
 refine ⟨by omega,by omega,?_⟩
 by_cases hk:p.kd=1
 · exact .inl hk
 · refine .inr ?_
   rw [show (p.kd == 1)=false by simpa using hk] at h3
   have h4:(p.kd == 2 && decide (p.bo=ByteArray.empty))=true:=h3
   rw [Bool.and_eq_true] at h4
   simpa using h4.1
theorem enB_back (h:p.right=true):hdP (enB p)=p∧deW (enB p)=false:=by
 have hb:=enB_byt p
 obtain ⟨h1,h2,h3⟩:=right_bd h
 have hsz:=right_size h
 have e:∀ (i:Nat) (a b:Int),[byt (enB p) 0,byt (enB p) 1,byt (enB p) 2,byt (enB p) 3,byt (enB p) 4,byt (enB p) 5,byt (enB p) 6,byt (enB p) 7,byt (enB p) 8,byt (enB p) 9,byt (enB p) 10,byt (enB p) 11][i]? = some a→([114,100,p.kd % 256]++be4 p.nu++be4 p.bo.size++[58])[i]? = some b→a=b:=fun i a b ha hb'=>by
  rw [hb,hb'] at ha;exact (Option.some.inj ha).symm
 have e0:=e 0 _ _ rfl rfl
 have e1:=e 1 _ _ rfl rfl
 have e2:=e 2 _ _ rfl rfl
 have e11:=e 11 _ _ rfl rfl
 have f1:be4 p.nu=[byt (enB p) 3,byt (enB p) 4,byt (enB p) 5,byt (enB p) 6]:=(congrArg (fun l=>(l.drop 3).take 4) hb).symm
 have f2:be4 p.bo.size=[byt (enB p) 7,byt (enB p) 8,byt (enB p) 9,byt (enB p) 10]:=(congrArg (fun l=>(l.drop 7).take 4) hb).symm
 have n1:=nb4_be4 h1 (by omega) f1
 have n2:=nb4_be4 (by omega) (by omega) f2
 have hp:hdP (enB p)=p:=by
  unfold hdP
  rw [e2,n1,enB_tail,show p.kd % 256=p.kd by rcases h3 with h3 | h3<;>rw [h3]<;>rfl]
 refine ⟨hp,?_⟩
 unfold deW
 rw [hp,h,e0,e1,e11,n2,enB_tail]
 simp
theorem dec_enc (h:p.right=true):deP (enB p)=p∧deE (enB p)=0:=by
 obtain ⟨h1,h2⟩:=enB_back h
 have hn:¬ (enB p).size < 12:=by rw [enB_size];omega
 unfold deP deE
 rw [if_neg hn,if_neg hn,h2]
 exact ⟨h1,rfl⟩
theorem dec_cut (h:p.right=true) (k:Nat) (hk:k < (enB p).size):deE ((enB p).extract 0 k)=330:=by
 have hks:((enB p).extract 0 k).size=k:=by rw [ByteArray.size_extract];omega
 unfold deE
 by_cases h12:k < 12
 · rw [if_pos (by rw [hks];exact h12)]
 · rw [if_neg (by rw [hks];exact h12)]
   have hby:∀ i,i < 12→byt ((enB p).extract 0 k) i=byt (enB p) i:=fun i hi=>by
    unfold byt
    rw [getElem!_pos ((enB p).extract 0 k) i (by omega),getElem!_pos (enB p) i (by omega)]
    congr 2
    simp [ByteArray.getElem_extract]
   have hsz:=right_size h
   have f2:be4 p.bo.size=[byt (enB p) 7,byt (enB p) 8,byt (enB p) 9,byt (enB p) 10]:=(congrArg (fun l=>(l.drop 7).take 4) (enB_byt p)).symm
   have n2:=nb4_be4 (by omega) (by omega) f2
   have hw:deW ((enB p).extract 0 k)=true:=by
    unfold deW
    rw [hby 7 (by omega),hby 8 (by omega),hby 9 (by omega),hby 10 (by omega),n2]
    have hne:((p.bo.size:Int) != ((((enB p).extract 0 k).extract 12 ((enB p).extract 0 k).size).size:Int))=true:=by
     rw [ByteArray.size_extract,hks,bne_iff_ne]
     have:=enB_size p
     omega
    rw [hne]
    simp
   rw [if_pos hw]
theorem eq_pk (a b:Int) (s:ByteArray) (W:World):(Op.eqFields 9999 #[.int .i64 a,.int .i64 b,.string s] #[.int .i64 a,.int .i64 b,.string s] (Tryd.prog.fieldsOf 28).toList).run Tryd.prog W=.ok true W:=by
 have p9:Tryd.prog.plainKey 9=true:=by kernel_rfl
 have p3:Tryd.prog.plainKey 3=true:=by kernel_rfl
 simp only [Program.fieldsOf,u28,Op.eqFields]
 have q0:∀ W,(part 3 #[.int .i64 a,.int .i64 b,.string s] 0).run Tryd.prog W=.ok (.int .i64 a) W:=fun W=>run_part_plain W p3 rfl
 have q1:∀ W,(part 3 #[.int .i64 a,.int .i64 b,.string s] 1).run Tryd.prog W=.ok (.int .i64 b) W:=fun W=>run_part_plain W p3 rfl
 have q2:∀ W,(part 9 #[.int .i64 a,.int .i64 b,.string s] 2).run Tryd.prog W=.ok (.string s) W:=fun W=>run_part_plain W p9 rfl
 have e9:∀ W d,(Op.equalIn (d + 1) 9 (.string s) (.string s)).run Tryd.prog W=.ok true W:=fun W d=>by rw [run_equalIn_string W d 9 s s u9];simp
 have e3:∀ W d n,(Op.equalIn (d + 1) 3 (.int .i64 n) (.int .i64 n)).run Tryd.prog W=.ok true W:=fun W d n=>by rw [run_equalIn_int W d 3 .i64 .i64 n n u3];simp
 simp [Sem.run_bind,q0,q1,q2,e9 _ 9998,e3 _ 9998,Result.andThen_ok]
set_option maxRecDepth 100000 in
theorem c5 (p:Pk) (k:Int) (h0:0≤k) (h1:k < 256):Pf Tryd.prog 5 [p.d,.int .u8 k] (.d (.bool true)):=by
 have q10:=c10 p
 have q12:=c12 (enB p)
 by_cases hr:p.right=true
 · obtain ⟨g1,g2⟩:=dec_enc hr
   have hsz:=enB_size p
   have hw:IntKind.i64.wrap (12 + (p.bo.size:Int))=12 + (p.bo.size:Int):=by
    have:=right_size hr
    exact Y1
   have hkw:IntKind.i64.wrap k=k:=by
    simp [IntKind.wrap,IntKind.signed,IntKind.bits];omega
   have hkk:0≤k.tmod ((enB p).size:Int)∧k.tmod ((enB p).size:Int) < ((enB p).size:Int):=by
    rw [Int.tmod_eq_emod_of_nonneg h0]
    exact ⟨Int.emod_nonneg _ (by omega),Int.emod_lt_of_pos _ (by omega)⟩
   have q12':=c12 ((enB p).extract 0 (k.tmod ((enB p).size:Int)).toNat)
   rw [dec_cut hr _ (by omega)] at q12'
   have hC:enC p=enB p:=if_pos hr
   have hE:enE p=0:=if_pos hr
   rw [hC,hE] at q10
   rw [g1,g2] at q12
   generalize deP ((enB p).extract 0 (k.tmod ((enB p).size:Int)).toNat)=pz at q12'
   unfold Pk.d at q10 q12 q12' ⊢
   refine pfb Tryd.func5 Tryd.ntmps5 Tryd.results5 (fun S0 O0 w0 m0 hm0=>?_)
   repeat' first | refine s_ ?_ | fail
   refine d_ (fun hb=>?_) (fun hb=>?_)
   · repeat' first | refine s_ ?_ | refine c_ c9 ?_ | fail
     exact e_
   · repeat' first | refine s_ ?_ | refine c_ q10 ?_ | refine c_ q12 ?_ | fail
     refine Z1 ?_
     repeat' first | refine s_ ?_ | refine c_ q10 ?_ | refine c_ q12 ?_ | fail
     refine gq (p:=.d (.bool (!true))) (by exact rfl) (fun _ _=>by exact Q_structne rfl rfl rfl rfl (by kernel_rfl) (by kernel_rfl) (by kernel_rfl) (eq_pk p.kd p.nu p.bo)) ?_
     repeat' first | refine s_ ?_ | fail
     refine cf (by exact rfl) ?_ (by rw [hw,hsz];simp)
     repeat' first | refine s_ ?_ | fail
     rw [hkw]
     refine gq (p:=.d (.str ((enB p).extract 0 (k.tmod ((enB p).size:Int)).toNat))) (by exact rfl) (fun _ _=>by exact Q_strh rfl rfl u9 hkk.1 (by have:=hkk.2;omega) rfl) ?_
     repeat' first | refine s_ ?_ | refine cl (by exact rfl) q12' ?_ | refine clg (by exact rfl) (fun _=>c9) ?_ | fail
     exact e_
 · have hC:enC p=ByteArray.empty:=if_neg hr
   have hE:enE p=330:=if_neg hr
   rw [hC,hE] at q10
   unfold Pk.d at q10 ⊢
   refine pfb Tryd.func5 Tryd.ntmps5 Tryd.results5 (fun S0 O0 w0 m0 hm0=>?_)
   repeat' first | refine s_ ?_ | fail
   refine d_ (fun hb=>?_) (fun hb=>?_)
   · repeat' first | refine s_ ?_ | refine c_ c9 ?_ | fail
     exact e_
   · repeat' first | refine s_ ?_ | refine c_ q10 ?_ | fail
     refine Z16 ?_
     repeat' first | refine s_ ?_ | refine clg (by exact rfl) (fun _=>c9) ?_ | fail
     exact e_
end
end Go.Proofs.YtoonleefemkalaaDoor
namespace Go.Proofs.YtoonleefemkalaaDoor
open Go Go.RowKit Go.Extern.Stop Go.Stop Go.Extern
theorem valueOf121 (t:Addr) (w:World):(ReflectliteValue.unpack (.iface 121 (.pointer (some t)))).run Tryd.prog w=.ok (.agg #[.pointer (some ⟨1,121,none⟩),.pointer (some ⟨w.heap.size,0,none⟩),.int .u64 150]) (w.alloc (.cells #[.pointer (some t)] 121)):=by kernel_rfl
theorem type121 (a:Addr) (w:World):(ReflectliteValue.methodAny (ReflectliteValue.valueError "reflectlite.Value.Type" 0) (fun t _ _ _=>ReflectliteType.toType t) #[.agg #[.pointer (some ⟨1,121,none⟩),.pointer (some a),.int .u64 150]]).run Tryd.prog w=.ok (.iface 138 (.agg #[.pointer (some ⟨1,121,none⟩)])) w:=by kernel_rfl
theorem methodKind (h:Value) (w:World):(Go.method 282 138 (.agg #[h]) "Kind").run Tryd.prog w=.ok (97,h) w:=by kernel_rfl
theorem kind121 (w:World):((ReflectliteType.abiMethod fun t=>(fun a:Nat=>Value.int IntKind.u8 (a:Int)) <$> Rtype.kind t) #[.pointer (some ⟨1,121,none⟩)]).run Tryd.prog w=.ok (.int .u8 22) w:=by kernel_rfl
theorem kind25 (w:World):((ReflectliteType.abiMethod fun t=>(fun a:Nat=>Value.int IntKind.u8 (a:Int)) <$> Rtype.kind t) #[.pointer (some ⟨1,25,none⟩)]).run Tryd.prog w=.ok (.int .u8 2) w:=by kernel_rfl
theorem rlm (z:Sem Value) (f:TypeId→Addr→Nat→Nat→Sem Value) (v:Value):ReflectliteValue.method z f #[v]=(do match ← ReflectliteValue.parts v with | none=>z | some (t,a,fl)=>f t a fl (fl % 32)):=rfl
theorem parts121 (a:Addr) (w:World):(ReflectliteValue.parts (.agg #[.pointer (some ⟨1,121,none⟩),.pointer (some a),.int .u64 150])).run Tryd.prog w=.ok (some (121,a,150)) w:=by kernel_rfl
theorem uu121:Tryd.prog.underlying 121=some (.pointer 25):=by kernel_rfl
theorem isNil121 (a p:Addr) (W:World) (ha:W.cell? a=some (.pointer (some p))):(ReflectliteValue.method (ReflectliteValue.valueError "reflectlite.Value.IsNil" 0) ReflectliteValue.isNil #[.agg #[.pointer (some ⟨1,121,none⟩),.pointer (some a),.int .u64 150]]).run Tryd.prog W=.ok (.bool false) W:=by
 rw [rlm]
 simp only [Sem.run_bind,parts121,Result.andThen]
 simp [ReflectliteValue.isNil,loadVar,isAgg,underlying,uu121,ha,Result.andThen]
theorem methodElem (h:Value) (w:World):(Go.method 282 138 (.agg #[h]) "Elem").run Tryd.prog w=.ok (107,.agg #[h]) w:=by kernel_rfl
theorem methodImplements (h:Value) (w:World):(Go.method 282 138 (.agg #[h]) "Implements").run Tryd.prog w=.ok (108,.agg #[h]) w:=by kernel_rfl
theorem methodAssignableTo (h:Value) (w:World):(Go.method 282 138 (.agg #[h]) "AssignableTo").run Tryd.prog w=.ok (105,.agg #[h]) w:=by kernel_rfl
theorem elem121 (w:World):(ReflectliteType.method ReflectliteType.elem #[.agg #[.pointer (some ⟨1,121,none⟩)]]).run Tryd.prog w=.ok (.iface 138 (.agg #[.pointer (some ⟨1,25,none⟩)])) w:=by kernel_rfl
theorem implements25 (w:World):(ReflectliteType.relation "Implements" ReflectliteType.implements_ #[.agg #[.pointer (some ⟨1,25,none⟩)],.iface 138 (.agg #[.pointer (some ⟨1,117,none⟩)])]).run Tryd.prog w=.ok (.bool true) w:=by kernel_rfl
theorem typeOf25 (v:Value) (w:World):(ReflectliteType.typeOf #[.iface 25 v]).run Tryd.prog w=.ok (.iface 138 (.agg #[.pointer (some ⟨1,25,none⟩)])) w:=by kernel_rfl
theorem assignable25 (w:World):(ReflectliteType.relation "AssignableTo" ReflectliteType.assignableTo #[.agg #[.pointer (some ⟨1,25,none⟩)],.iface 138 (.agg #[.pointer (some ⟨1,25,none⟩)])]).run Tryd.prog w=.ok (.bool true) w:=by kernel_rfl
theorem valueOf25 (e:Int) (w:World):(ReflectliteValue.unpack (.iface 25 (.int .i64 e))).run Tryd.prog w=.ok (.agg #[.pointer (some ⟨1,25,none⟩),.pointer (some ⟨w.heap.size,0,none⟩),.int .u64 130]) (w.alloc (.cells #[.int .i64 e] 25)):=by kernel_rfl
theorem elemOf121 (w:World):(Rtype.elem? 121).run Tryd.prog w=.ok (some 25) w:=by kernel_rfl
theorem mk25 (p:Addr) (w:World):(ReflectliteValue.mk 25 p ReflectliteValue.flagAddr).run Tryd.prog w=.ok (.agg #[.pointer (some ⟨1,25,none⟩),.pointer (some p),.int .u64 386]) w:=by kernel_rfl
theorem elemV121 (a p:Addr) (W:World) (ha:W.cell? a=some (.pointer (some p))):(ReflectliteValue.method (ReflectliteValue.valueError "reflectlite.Value.Elem" 0) ReflectliteValue.elem #[.agg #[.pointer (some ⟨1,121,none⟩),.pointer (some a),.int .u64 150]]).run Tryd.prog W=.ok (.agg #[.pointer (some ⟨1,25,none⟩),.pointer (some p),.int .u64 386]) W:=by
 rw [rlm]
 simp only [Sem.run_bind,parts121,Result.andThen]
 simp [ReflectliteValue.elem,loadVar,isAgg,underlying,uu121,ha,Result.andThen,elemOf121,mk25]
theorem rls (v x:Value):ReflectliteValue.set #[v,x]=(do
 let (some (dst,a,fl),some (src,b,_)):=(← ReflectliteValue.parts v,← ReflectliteValue.parts x)
  | unsupported (.noEntry "extern/(internal/reflectlite.Value).Set.zeroValue")
 if fl / ReflectliteValue.flagAddr % 2 == 0 then unsupported (.noEntry "extern/(internal/reflectlite.Value).Set.unaddressable")
 let val ← loadVar src b
 if ← Rtype.directlyAssignable dst src then storeVar dst a val
 else if ← Rtype.implements dst src then
  if (← Rtype.kind src) == 20 then
   match val with
   | .nilIface=>unsupported (.noEntry "extern/reflectlite: a nil value of one interface type handed on as a value of another")
   | _=>storeVar dst a val
  else storeVar dst a (.iface src val)
 else panicString ("reflectlite.Set: value of type "++(← Rtype.spelt src)++" is not assignable to type "++(← Rtype.spelt dst))
 pure (.tuple #[])):=rfl
theorem parts25a (a:Addr) (w:World):(ReflectliteValue.parts (.agg #[.pointer (some ⟨1,25,none⟩),.pointer (some a),.int .u64 386])).run Tryd.prog w=.ok (some (25,a,386)) w:=by kernel_rfl
theorem parts25 (a:Addr) (w:World):(ReflectliteValue.parts (.agg #[.pointer (some ⟨1,25,none⟩),.pointer (some a),.int .u64 130])).run Tryd.prog w=.ok (some (25,a,130)) w:=by kernel_rfl
theorem direct25 (w:World):(Rtype.directlyAssignable 25 25).run Tryd.prog w=.ok true w:=by kernel_rfl
theorem set25 (ta b:Addr) (e:Int) (old:Value) (W:World) (hb:W.cell? b=some (.int .i64 e)) (ht:W.cell? ta=some old) (hf:W.frozen? ta=false):
 (ReflectliteValue.set #[.agg #[.pointer (some ⟨1,25,none⟩),.pointer (some ta),.int .u64 386],.agg #[.pointer (some ⟨1,25,none⟩),.pointer (some b),.int .u64 130]]).run Tryd.prog W=.ok (.tuple #[]) (W.setCell ta (.int .i64 e)):=by
 rw [rls]
 simp only [Sem.run_bind,parts25a,parts25,Result.andThen]
 simp [ReflectliteValue.flagAddr,loadVar,isAgg,underlying,u25,hb,Result.andThen,direct25,storeVar,Value.cells,storeCells,Addr.add]
 rw [run_store Tryd.prog W ta _ _ (by rfl)]
 simp [ht,hf]
set_option maxHeartbeats 4000000 in
set_option maxRecDepth 100000 in
theorem as_inner (e:Int) (b0 t:Addr) (old tgt:Value) (w:World) (hb0:w.cell? b0=some (.pointer (some t))) (ht0:w.cell? t=some old) (hf0:w.frozen? t=false):
 Calls Tryd.prog 77 #[.iface 25 (.int .i64 e),tgt,.agg #[.pointer (some ⟨1,121,none⟩),.pointer (some b0),.int .u64 150],.iface 138 (.agg #[.pointer (some ⟨1,25,none⟩)])] w fun ev w'=>ev=.returned (.bool true)∧
  w'=((w.alloc (.cells #[.pointer (some ⟨1,121,none⟩),.pointer (some b0),.int .u64 150] 128)).alloc (.cells #[.int .i64 e] 25)).setCell t (.int .i64 e):=by
 have h79:=@run_callFunc_extern Tryd.prog 79 _ ReflectliteType.typeOf Tryd.func79 (by kernel_rfl) (by kernel_rfl) (by kernel_rfl) (by kernel_rfl)
 have h105:=@run_callFunc_extern Tryd.prog 105 _ (ReflectliteType.relation "AssignableTo" ReflectliteType.assignableTo) Tryd.func105 (by kernel_rfl) (by kernel_rfl) (by kernel_rfl) (by kernel_rfl)
 have h80:=@run_callFunc_extern Tryd.prog 80 _ (ReflectliteValue.method (ReflectliteValue.valueError "reflectlite.Value.Elem" 0) ReflectliteValue.elem) Tryd.func80 (by kernel_rfl) (by kernel_rfl) (by kernel_rfl) (by kernel_rfl)
 have h74:=@run_callFunc_extern Tryd.prog 74 _ (fun args=>ReflectliteValue.unpack (args.getD 0 (.tuple #[]))) Tryd.func74 (by kernel_rfl) (by kernel_rfl) (by kernel_rfl) (by kernel_rfl)
 have h81:=@run_callFunc_extern Tryd.prog 81 _ ReflectliteValue.set Tryd.func81 (by kernel_rfl) (by kernel_rfl) (by kernel_rfl) (by kernel_rfl)
 have tO:=typeOf25
 have mA:=methodAssignableTo
 have a25:=assignable25
 have v25:=valueOf25
 have hbl:b0.block < w.heap.size:=by
  rcases Nat.lt_or_ge b0.block w.heap.size with h | h
  · exact h
  · simp [World.cell?,Array.getElem?_eq_none h] at hb0
 have htl:t.block < w.heap.size:=by
  rcases Nat.lt_or_ge t.block w.heap.size with h | h
  · exact h
  · simp [World.cell?,Array.getElem?_eq_none h] at ht0
 have el:=elemV121 b0 t (w.alloc (.cells #[.pointer (some ⟨1,121,none⟩),.pointer (some b0),.int .u64 150] 128)) (by rw [World.cell?_alloc_lt _ _ b0 hbl];exact hb0)
 have st:=set25 t ⟨w.heap.size + 1,0,none⟩ e old ((w.alloc (.cells #[.pointer (some ⟨1,121,none⟩),.pointer (some b0),.int .u64 150] 128)).alloc (.cells #[.int .i64 e] 25))
  (by rw [World.cell?_alloc_at _ _ _ _ (by simp)];rfl)
  (by rw [World.cell?_alloc_lt _ _ t (by simp;omega),World.cell?_alloc_lt _ _ t htl];exact ht0)
  (by rw [World.frozen?_alloc_old _ _ t (by simp;omega),World.frozen?_alloc_old _ _ t (Nat.ne_of_lt htl)];exact hf0)
 go_enter Tryd.func77,Tryd.ntmps77
 go_wp2
 refine wp_loop_rounds 1 ?_
 rw [rounds_succ]
 go_wp2
 go_ret
 exact ⟨rfl,rfl⟩
def gval:Value:=.iface 138 (.agg #[.pointer (some ⟨1,117,none⟩)])
set_option maxHeartbeats 4000000 in
set_option maxRecDepth 100000 in
theorem as_hit (e:Int) (t:Addr) (old:Value) (w:World) (hg:w.cell? ⟨0,0,none⟩=some (.iface 138 (.agg #[.pointer (some ⟨1,117,none⟩)]))) (ht0:w.cell? t=some old) (hf0:w.frozen? t=false):
 Calls Tryd.prog 70 #[.iface 25 (.int .i64 e),.iface 121 (.pointer (some t))] w fun ev w'=>ev=.returned (.bool true)∧
  w'=((((w.alloc (.cells #[.pointer (some t)] 121)).alloc (.cells #[.pointer (some ⟨1,121,none⟩),.pointer (some ⟨w.heap.size,0,none⟩),.int .u64 150] 128)).alloc (.cells #[.pointer (some ⟨1,121,none⟩),.pointer (some ⟨w.heap.size,0,none⟩),.int .u64 150] 128)).alloc (.cells #[.int .i64 e] 25)).setCell t (.int .i64 e):=by
 have h74:=@run_callFunc_extern Tryd.prog 74 _ (fun args=>ReflectliteValue.unpack (args.getD 0 (.tuple #[]))) Tryd.func74 (by kernel_rfl) (by kernel_rfl) (by kernel_rfl) (by kernel_rfl)
 have h75:=@run_callFunc_extern Tryd.prog 75 _ (ReflectliteValue.methodAny (ReflectliteValue.valueError "reflectlite.Value.Type" 0) (fun t _ _ _=>ReflectliteType.toType t)) Tryd.func75 (by kernel_rfl) (by kernel_rfl) (by kernel_rfl) (by kernel_rfl)
 have h76:=@run_callFunc_extern Tryd.prog 76 _ (ReflectliteValue.method (ReflectliteValue.valueError "reflectlite.Value.IsNil" 0) ReflectliteValue.isNil) Tryd.func76 (by kernel_rfl) (by kernel_rfl) (by kernel_rfl) (by kernel_rfl)
 have h97:=@run_callFunc_extern Tryd.prog 97 _ (ReflectliteType.abiMethod fun t=>do pure (.int .u8 (← Rtype.kind t))) Tryd.func97 (by kernel_rfl) (by kernel_rfl) (by kernel_rfl) (by kernel_rfl)
 have h107:=@run_callFunc_extern Tryd.prog 107 _ (ReflectliteType.method ReflectliteType.elem) Tryd.func107 (by kernel_rfl) (by kernel_rfl) (by kernel_rfl) (by kernel_rfl)
 have h108:=@run_callFunc_extern Tryd.prog 108 _ (ReflectliteType.relation "Implements" ReflectliteType.implements_) Tryd.func108 (by kernel_rfl) (by kernel_rfl) (by kernel_rfl) (by kernel_rfl)
 have f74:=valueOf121
 have f75:=type121
 have mK:=methodKind
 have mE:=methodElem
 have mI:=methodImplements
 have k121:=kind121
 have k25:=kind25
 have e121:=elem121
 have i25:=implements25
 have n76:=isNil121 ⟨w.heap.size,0,none⟩ t ((w.alloc (.cells #[.pointer (some t)] 121)).alloc (.cells #[.pointer (some ⟨1,121,none⟩),.pointer (some ⟨w.heap.size,0,none⟩),.int .u64 150] 128)) (by simp)
 have hlt:0 < w.heap.size:=by
  rcases Nat.eq_zero_or_pos w.heap.size with h0 | h
  · simp [World.cell?,h0] at hg
  · exact h
 have hg2:((w.alloc (.cells #[.pointer (some t)] 121)).alloc (.cells #[.pointer (some ⟨1,121,none⟩),.pointer (some ⟨w.heap.size,0,none⟩),.int .u64 150] 128)).cell? ⟨0,0,none⟩=some (.iface 138 (.agg #[.pointer (some ⟨1,117,none⟩)])):=by
  rw [World.cell?_alloc_lt _ _ ⟨0,0,none⟩ (by simp),World.cell?_alloc_lt _ _ ⟨0,0,none⟩ hlt];exact hg
 have htl:t.block < w.heap.size:=by
  rcases Nat.lt_or_ge t.block w.heap.size with h | h
  · exact h
  · simp [World.cell?,Array.getElem?_eq_none h] at ht0
 have hin:=as_inner e ⟨w.heap.size,0,none⟩ t old (.iface 121 (.pointer (some t))) ((w.alloc (.cells #[.pointer (some t)] 121)).alloc (.cells #[.pointer (some ⟨1,121,none⟩),.pointer (some ⟨w.heap.size,0,none⟩),.int .u64 150] 128))
  (by rw [World.cell?_alloc_lt _ _ ⟨w.heap.size,0,none⟩ (by simp)];rw [World.cell?_alloc_at _ _ _ _ rfl];rfl)
  (by rw [World.cell?_alloc_lt _ _ t (by simp;omega),World.cell?_alloc_lt _ _ t htl];exact ht0)
  (by rw [World.frozen?_alloc_old _ _ t (by simp;omega),World.frozen?_alloc_old _ _ t (Nat.ne_of_lt htl)];exact hf0)
 go_enter Tryd.func70,Tryd.ntmps70
 go_wp2_with (go_at_call 77;refine hin.mono ?_;rintro e' w' ⟨rfl,rfl⟩)
 go_ret
 exact ⟨rfl,rfl⟩
end Go.Proofs.YtoonleefemkalaaDoor
namespace Go.Proofs.YtoonleefemkalaaDoor
open Go Go.Proofs.YtoonleefemkalaaDoor.E
section
def Lad (S:Reg) (w:World):Prop:=S 0 0∧w.cell? ⟨0,0,none⟩=some gval
theorem Lad.on {S S':Reg} {w w':World} (h:Lad S w) (he:Ext S w w') (hs:∀ b o,S b o→S' b o):Lad S' w':=⟨hs _ _ h.1,(he.cell 0 0 h.1).trans h.2⟩
def GL (jn:Nat) (f:FuncId) (args:List PV) (mem:List (List PV)) (R:PV→List (List PV)→Prop):Prop:=Fok Tryd.prog f∧∀ S w,Lad S w→GCallX S w jn Tryd.prog f args mem R
variable {f:FuncId} {args:List PV} {mem:List (List PV)}
theorem Gj.L {jn:Nat} {R:PV→List (List PV)→Prop} (h:Gj jn Tryd.prog f args mem R):GL jn f args mem R:=⟨h.1,fun S w _=>h.2.x S w⟩
theorem GL.mono {jn:Nat} {R R':PV→List (List PV)→Prop} (h:GL jn f args mem R) (hr:∀ r m,R r m→R' r m):GL jn f args mem R':=⟨h.1,fun S w hL=>(h.2 S w hL).mono hr⟩
def PL (f:FuncId) (args:List D) (r:PV):Prop:=GL 0 f (args.map .d) [] (fun q m=>q=r∧m=[])
variable {r:PV}
theorem Pf.L {args:List D} (h:Pf Tryd.prog f args r):PL f args r:=Gj.L (Gm.j 0 h)
def MtL (f:FuncId) (args:List PV) (c:Ch) (r:PV) (c':Ch):Prop:=∀ p:Pp,p.Ok→GL 1 f args (ChM c p) (fun q m=>q=r∧∃ p':Pp,p'.Ok∧m=ChM c' p')
theorem Mt.L {c c':Ch} (h:Mt f args c r c'):MtL f args c r c':=fun p hp=>Gj.L (h p hp)
theorem glB (jn:Nat) {f:FuncId} {fn:Func} {c:Code} {args:List PV} {mem:List (List PV)} {R:PV→List (List PV)→Prop} {n:Nat} {rvs:List ResultVar} {slots:List (Nat×PV)} (k:Nat) (hf:Tryd.prog.funcs[f]? = some fn) (hn:fn.ntmps=n) (hres:fn.results=rvs.toArray)
 (h:∀ S0 O0 w0 m0,Lad S0 w0→m0.length=min jn k→GF ⟨Tryd.prog,n,S0,O0,w0,m0,[],[]⟩ [] (.code c) (E.Fin Tryd.prog rvs k R) ⟨slots,mem⟩)
 (hb:fn.body=some c:=by rfl) (hnm:(fn.name == "runtime.NumGoroutine")=false:=by rfl) (hal:args.length≤n:=by exact oR rfl) (hsl:(List.range args.length).zip args=slots:=by rfl) (hk:mem.length=k:=by rfl):GL jn f args mem R:=
 ⟨⟨fn,hf,by rw [hb];rfl,hnm⟩,fun S w hL=>gcall_bodyX S w jn n rvs slots k hf hb hn hal hres hsl hk (fun S0 O0 w0 m0 he hs hm=>h S0 O0 w0 m0 (hL.on he hs) hm)⟩
theorem plB {fn:Func} {c:Code} {args:List D} {n:Nat} {rvs:List ResultVar} {slots:List (Nat×PV)} (hf:Tryd.prog.funcs[f]? = some fn) (hn:fn.ntmps=n) (hres:fn.results=rvs.toArray)
 (h:∀ S0 O0 w0 m0,Lad S0 w0→m0.length=0→GF ⟨Tryd.prog,n,S0,O0,w0,m0,[],[]⟩ [] (.code c) (E.Fin Tryd.prog rvs 0 (fun q m=>q=r∧m=[])) ⟨slots,[]⟩)
 (hb:fn.body=some c:=by rfl) (hnm:(fn.name == "runtime.NumGoroutine")=false:=by rfl) (hal:(args.map PV.d).length≤n:=by exact oR rfl) (hsl:(List.range (args.map PV.d).length).zip (args.map PV.d)=slots:=by rfl):PL f args r:=
 glB 0 0 hf hn hres (fun S0 O0 w0 m0 hL hm=>h S0 O0 w0 m0 hL (by simpa using hm)) hb hnm hal hsl rfl
theorem clL {n:Nat} {S0:Reg} {O0:Owns} {w0:World} {m0 Bs:List Nat} {ds:List Deferred} {fr:List Fr} {Q:Exit→GS→Prop} {ops:Array Oper} {i:Nat} {l:List Nat} {sl:List (Nat×PV)} {t:Nat} {args:List D} (hL:Lad S0 w0) (h:cms ops.toList n i sl=some (t,f,args.map .d)) (hc:PL f args r) (hg:GF ⟨Tryd.prog,n,S0,O0,w0,m0,Bs,ds⟩ fr (.ops ops l) Q ⟨(t,r) :: sl,mem⟩) (hargs:args.map PV.d=PV.rens (fun b=>([]:List Nat).getD b 0) (args.map PV.d):=by rfl) (hra:PV.refsBs 0 (args.map PV.d)=true:=by rfl) (hr:r.ren (renN [] mem.length)=r:=by rfl):GF ⟨Tryd.prog,n,S0,O0,w0,m0,Bs,ds⟩ fr (.ops ops (i :: l)) Q ⟨sl,mem⟩:=
 gNX h hc.1 (hc.2 _ _ hL) hg hargs hra hr
theorem c70e (e old:Int):GL 1 70 [.d (.iface 25 (.int .i64 e)),.ifr 121 0 0] [[.d (.int .i64 old)]] (fun q m=>q=.d (.bool true)∧m=[[.d (.int .i64 e)]]):=by
 refine ⟨⟨_,Tryd.func70,rfl,rfl⟩,fun S0 w0 hL w S O m vals he hs henv hvs hargs=>?_⟩
 have hL2:=hL.on he hs
 obtain ⟨v0,v1,rfl⟩:∃ v0 v1,vals=#[v0,v1]:=by
  match vals,hvs with
  | ⟨[a,b]⟩,_=>exact ⟨a,b,rfl⟩
 have h0:=hargs 0 _ v0 rfl rfl
 have h1:=hargs 1 _ v1 rfl rfl
 obtain rfl:v0=.iface 25 (.int .i64 e):=by cases h0 with | d _ _ _ h=>cases h with | iface _ _ u h2=>cases h2;rfl
 obtain ⟨r,hr,rfl⟩:∃ r,m[0]? = some r∧v1=.iface 121 (.pointer (some ⟨r,0,none⟩)):=by cases h1 with | ifr _ _ _ _ r h=>exact ⟨r,h,rfl⟩
 have hrep:Rep ⟨Tryd.prog,0,S,O,w,m,[],[]⟩ S O m ⟨[],[[.d (.int .i64 old)]]⟩ { tmps:=#[],defers:=[] } w:=⟨henv,rfl,rfl,List.prefix_refl _,fun i p hp=>by cases hp⟩
 obtain ⟨r',vs,el,g1,g2,g3,g4,g5,g6⟩:=hrep.block (b:=0) rfl rfl
 obtain rfl:r=r':=by rw [hr] at g1;exact Option.some.inj g1
 have hlt:0 < vs.size:=g4
 have hrl:r < w.heap.size:=(Array.getElem?_eq_some_iff.1 g3).1
 have hcell:w.cell? ⟨r,0,none⟩=some vs[0]:=by simp [World.cell?,g3,hlt]
 have hfrz:w.frozen? ⟨r,0,none⟩=false:=by simp [World.frozen?,g3]
 refine (as_hit e ⟨r,0,none⟩ vs[0] w hL2.2 hcell hfrz).mono ?_
 rintro ev w' ⟨rfl,rfl⟩
 have hr4:=(((hrep.allocd (.cells #[.pointer (some ⟨r,0,none⟩)] 121)).allocd (.cells #[.pointer (some ⟨1,121,none⟩),.pointer (some ⟨w.heap.size,0,none⟩),.int .u64 150] 128)).allocd (.cells #[.pointer (some ⟨1,121,none⟩),.pointer (some ⟨w.heap.size,0,none⟩),.int .u64 150] 128)).allocd (.cells #[.int .i64 e] 25)
 have hc4:((((w.alloc (.cells #[.pointer (some ⟨r,0,none⟩)] 121)).alloc (.cells #[.pointer (some ⟨1,121,none⟩),.pointer (some ⟨w.heap.size,0,none⟩),.int .u64 150] 128)).alloc (.cells #[.pointer (some ⟨1,121,none⟩),.pointer (some ⟨w.heap.size,0,none⟩),.int .u64 150] 128)).alloc (.cells #[.int .i64 e] 25)).cell? ⟨r,0,none⟩=some vs[0]:=by
  rw [World.cell?_alloc_lt _ _ ⟨r,0,none⟩ (by simp;omega),World.cell?_alloc_lt _ _ ⟨r,0,none⟩ (by simp;omega),World.cell?_alloc_lt _ _ ⟨r,0,none⟩ (by simp;omega),World.cell?_alloc_lt _ _ ⟨r,0,none⟩ hrl];exact hcell
 have hf4:((((w.alloc (.cells #[.pointer (some ⟨r,0,none⟩)] 121)).alloc (.cells #[.pointer (some ⟨1,121,none⟩),.pointer (some ⟨w.heap.size,0,none⟩),.int .u64 150] 128)).alloc (.cells #[.pointer (some ⟨1,121,none⟩),.pointer (some ⟨w.heap.size,0,none⟩),.int .u64 150] 128)).alloc (.cells #[.int .i64 e] 25)).frozen? ⟨r,0,none⟩=false:=by
  rw [World.frozen?_alloc_old _ _ ⟨r,0,none⟩ (by simp;omega),World.frozen?_alloc_old _ _ ⟨r,0,none⟩ (by simp;omega),World.frozen?_alloc_old _ _ ⟨r,0,none⟩ (by simp;omega),World.frozen?_alloc_old _ _ ⟨r,0,none⟩ (Nat.ne_of_lt hrl)];exact hfrz
 obtain ⟨w5,hst,hr5⟩:=hr4.store (b:=0) (off:=0) (cs:=[.d (.int .i64 old)]) rfl rfl [.d (.int .i64 e)] [.int .i64 e] rfl (by simp) (fun j v hv=>by
  match j,hv with
  | 0,hv=>injection hv with hv;subst hv;rfl
  | j + 1,hv=>simp at hv) (fun l=>l) (fun _=>rfl) (fun _ _ _=>rfl) [] (fun i p hp=>by cases hp) (fun j p v hp hv=>by
  match j,hp,hv with
  | 0,hp,hv=>injection hp with hp;injection hv with hv;subst hp;subst hv;exact .d _ _ _ (.int _ _)
  | j + 1,hp,hv=>simp at hp) r hr
 have hw5:w5=(((((w.alloc (.cells #[.pointer (some ⟨r,0,none⟩)] 121)).alloc (.cells #[.pointer (some ⟨1,121,none⟩),.pointer (some ⟨w.heap.size,0,none⟩),.int .u64 150] 128)).alloc (.cells #[.pointer (some ⟨1,121,none⟩),.pointer (some ⟨w.heap.size,0,none⟩),.int .u64 150] 128)).alloc (.cells #[.int .i64 e] 25)).setCell ⟨r,0,none⟩ (.int .i64 e)):=by
  have hst2:(storeCells ⟨r,0,none⟩ [.int .i64 e]).run Tryd.prog ((((w.alloc (.cells #[.pointer (some ⟨r,0,none⟩)] 121)).alloc (.cells #[.pointer (some ⟨1,121,none⟩),.pointer (some ⟨w.heap.size,0,none⟩),.int .u64 150] 128)).alloc (.cells #[.pointer (some ⟨1,121,none⟩),.pointer (some ⟨w.heap.size,0,none⟩),.int .u64 150] 128)).alloc (.cells #[.int .i64 e] 25))=.ok () (((((w.alloc (.cells #[.pointer (some ⟨r,0,none⟩)] 121)).alloc (.cells #[.pointer (some ⟨1,121,none⟩),.pointer (some ⟨w.heap.size,0,none⟩),.int .u64 150] 128)).alloc (.cells #[.pointer (some ⟨1,121,none⟩),.pointer (some ⟨w.heap.size,0,none⟩),.int .u64 150] 128)).alloc (.cells #[.int .i64 e] 25)).setCell ⟨r,0,none⟩ (.int .i64 e)):=by
   simp [storeCells,Addr.add]
   rw [run_store Tryd.prog _ ⟨r,0,none⟩ _ _ (by rfl)]
   simp [hc4,hf4]
  have hst3:=hst.symm.trans hst2
  injection hst3
 rw [hw5] at hr5
 exact ⟨_,_,_,S,_,m,rfl,⟨rfl,rfl⟩,hr5.env,Nat.le_refl _,List.take_prefix _ _,.d _ _ _ (.bool true)⟩
theorem Q_mkIfr {K:Ctx} {s:GS} {t b off:Nat} {x:Operand} {ty rt e:TypeId} {pos:String} {af:Array Edge} {g:Option (Nat×Bool)} (hu:K.P.underlying ty=some (.pointer e)) (hx:s.ev x=.ref b off):Qy K ⟨some t,.makeInterface ty x,rt,pos,af,g⟩ s t (.ifr ty b off):=by
 refine fun S O m a w h=>?_
 obtain ⟨l,hr⟩:=h.ev x
 rw [hx] at hr
 generalize hav:a.eval x=v at hr
 cases hr with
 | ref _ _ _ r hr1=>exact ⟨.iface ty (.pointer (some ⟨r,off,none⟩)),fun w' _=>by simp [execOp,hav,Instr.makeInterface,run_underlying hu],.ifr _ _ _ _ r hr1⟩
theorem c63L (s:ByteArray) (k:Int):PL 63 [.str s,.int .i64 k] (.tup [.d (deP s).d,.d (.bool (deE s == 0 && (deP s).kd == k))]):=by
 by_cases h:deE s=0
 · have h1:=Pf.L (c63 s k h)
   rwa [show ((deP s).kd == k)=(deE s == 0 && (deP s).kd == k) by rw [h];rfl] at h1
 rw [show (deE s == 0 && (deP s).kd == k)=false by simp [h]]
 have q69:=c69 s
 unfold errD at q69
 rw [if_neg h] at q69
 unfold Pk.d at q69 ⊢
 refine plB Tryd.func63 Tryd.ntmps63 Tryd.results63 (fun S0 O0 w0 m0 hL hm0=>?_)
 repeat' (fail_if_success with_reducible refine ar 2 ?_);first | refine s_ ?_ | refine c_ q69 ?_ | fail
 refine Z8 ?_
 repeat' first | refine s_ ?_ | fail
 refine ow [3,4,5,11] [[[.d (.int .i64 0),.d (.int .i64 0),.d (.str { data:=#[] })],[.d (.int .i64 0)]],[[.d (.int .i64 0),.d (.int .i64 0),.d (.str { data:=#[] })],[.d (.int .i64 (deE s))]],[[.d (.int .i64 0),.d (.int .i64 0),.d (.str { data:=#[] })],[.d (.int .i64 (deE s))]],[[.d (.int .i64 0),.d (.int .i64 0),.d (.str { data:=#[] })],[.d (.int .i64 (deE s))]],[[.d (.int .i64 (deP s).kd),.d (.int .i64 (deP s).nu),.d (.str (deP s).bo)],[.d (.int .i64 (deE s))]]] (hc:=?_)
 refine Z12 ?_;refine Z12 ?_
 refine qaw (p:=.ifr 121 1 0) (hs:=rfl) (hj:=rfl) (h:=fun _=>rfl) (hq:=fun rest X _ _=>Q_mkIfr u121 rfl) (hc:=?_)
 refine oPutW 0 (t:=17) (p:=.d (.bool true)) (by exact rfl) (by exact rfl) (by exact rfl) rfl (by rfl) (by rfl) rfl rfl ?_ (fun rest Q' hg=>?_)
 · refine mw 1 (hc:=?_)
   refine mw 2 (hc:=?_)
   iterate 5 refine aw (hc:=?_)
   refine sw 3 (hc:=?_)
   refine Z12 ?_;refine Z25 ?_
   repeat' first | refine s_ ?_ | fail
   exact e_
 · refine gJX (jn:=1) [1] (by exact rfl) (c70e (deE s) 0).1 ((c70e (deE s) 0).2 _ _ hL) (by rfl) (by decide) (by simp) rfl rfl rfl (fun b hb=>by cases hb) rfl ?_
   rintro q m ⟨rfl,rfl⟩ _
   unfold stJ
   rw [show List.drop 1 [1]=[] from rfl,sansL_nil]
   exact hg
end
section
theorem front (pre post:List D) (l:List ByteArray) (i:Nat):pre++sD l++post=(pre++sD (l.take i))++sD (l.drop i)++post:=by
 have h:sD l=sD (l.take i)++sD (l.drop i):=by unfold sD;rw [← List.map_append,List.take_append_drop]
 rw [h];simp [List.append_assoc]
theorem sD_take (l:List ByteArray) (i:Nat):(sD l).take i=sD (l.take i):=by unfold sD;rw [List.map_take]
theorem sD_drop (l:List ByteArray) (i:Nat):(sD l).drop i=sD (l.drop i):=by unfold sD;rw [List.map_drop]
theorem k1_front {pre:List D} (h:∀ x ∈ pre,x.cells.length=1) (l:List ByteArray):∀ x ∈ pre++sD l,x.cells.length=1:=fun x hx=>by
 rcases List.mem_append.1 hx with hx | hx
 · exact h x hx
 · exact sD_k l x hx
theorem row_front (b:Nat) (pre post:List D) (l:List ByteArray) (i:Nat) (hi:i≤l.length):(PV.rsl b (rlo 1 (pre++(sD l).take i) ((sD l).drop i) post) ((sD l).length - i) 1)=rowV b 1 (pre++sD (l.take i)) (sD (l.drop i)) post:=by
 unfold rowV
 rw [sD_take,sD_drop,sD_len,sD_len,List.length_drop]
def fillN:Nat→Ch→Ch
 | 0,c=>c
 | n + 1,c=>match c.wai with
  | []=>c
  | m :: r=>if (c.una.length:Int) < c.win then fillN n { nextC c m with wai:=r } else c
def ackC (c:Ch) (s:ByteArray):Ch:=
 if (!(deE s == 0 && (deP s).kd == 2) || decide ((deP s).nu≤c.base) || decide ((deP s).nu > c.exp))=true then c
 else fillN c.wai.length { c with una:=c.una.drop ((deP s).nu - c.base).toNat,base:=(deP s).nu }
theorem leKp {K:Ctx} {sl sl':List (Nat×PV)} {mem:List (List PV)} (hk:Kps sl sl'):Le K ⟨sl,mem⟩ ⟨sl',mem⟩:=Le_slots (s:=⟨sl,mem⟩) (s':=⟨sl',mem⟩) rfl fun t p hp=>.inl (Kps_get hk t p hp)
theorem sendT_few {c:Ch} (h:c.Few) (q:Pk):(sendT c q).Few:=by
 unfold sendT
 split
 · rename_i hl
   exact { h with tos:=by show (c.tos++[enC q]).length≤_;rw [List.length_append];simp;omega }
 · exact h
theorem nextC_few {c:Ch} (h:c.Few) (m:ByteArray) (hu:c.una.length < 1000000):(nextC c m).Few:=by
 have h1:Ch.Few { c with una:=c.una++[m] }:={ h with una:=by show (c.una++[m]).length≤_;rw [List.length_append];simp;omega }
 exact { sendT_few h1 ⟨1,c.nxt,m⟩ with }
theorem sendT_wai (c:Ch) (q:Pk):(sendT c q).wai=c.wai∧(sendT c q).una=c.una∧(sendT c q).win=c.win:=by unfold sendT;split<;>exact ⟨rfl,rfl,rfl⟩
theorem nextC_wai (c:Ch) (m:ByteArray):(nextC c m).wai=c.wai∧(nextC c m).win=c.win:=⟨(sendT_wai { c with una:=c.una++[m] } ⟨1,c.nxt,m⟩).1,(sendT_wai { c with una:=c.una++[m] } ⟨1,c.nxt,m⟩).2.2⟩
set_option maxRecDepth 100000 in
theorem c59 (c:Ch) (s:ByteArray) (hc:c.Few) (hw:c.win≤1000000) (hb:0≤c.base) (he:c.exp≤c.base + (c.una.length:Int)):MtL 59 [.ref 0 0,.d (.str s)] c (.tup []) (ackC c s):=by
 intro p hp
 have q63:=c63L s 2
 unfold ackC
 unfold Pk.d at q63
 refine glB 1 7 Tryd.func59 Tryd.ntmps59 Tryd.results59 (fun S0 O0 w0 m0 hL hm0=>?_)
 repeat' first | refine s_ ?_ | refine clL (args:=[.str s,.int .i64 2]) hL (by exact rfl) q63 ?_ | fail
 refine fz true (by exact rfl) ?_ (by rw [hm0];decide) (ChM_refs c p)
 refine kp [(0,.ref 0 0),(4,.d (.ptr (.agg [.int .i64 (deP s).kd,.int .i64 (deP s).nu,.str (deP s).bo]))),(5,.d (.bool (deE s == 0 && (deP s).kd == 2)))] ⟨rfl,rfl,rfl,trivial⟩ ?_
 refine (show GF _ _ _ _ ⟨_,ChM c p⟩ from ?_)
 refine Z9 ?_
 iterate 20 refine ov (hc:=?_)
 refine Z36 ?_
 refine d_ (fun hb=>?_) (fun hb=>?_)
 · rw [if_pos hb]
   repeat' first | refine s_ ?_ | fail
   exact Y2
 have hne:¬ (!(deE s == 0 && (deP s).kd == 2) || decide ((deP s).nu≤c.base) || decide ((deP s).nu > c.exp))=true:=by rw [hb];decide
 rw [if_neg hne]
 rw [Bool.or_eq_false_iff,Bool.or_eq_false_iff] at hb
 have hn1:=of_decide_eq_false hb.1.2
 have hn2:=of_decide_eq_false hb.2
 clear hne hb
 have hfu:=hc.una
 obtain ⟨n,hn⟩:∃ n:Nat,(deP s).nu=c.base + (n:Int):=⟨((deP s).nu - c.base).toNat,by omega⟩
 generalize (deP s).nu=nu at hn hn1 hn2 ⊢
 subst hn
 have hnl:n≤c.una.length:=by omega
 have hwr:IntKind.i64.wrap (c.base + (n:Int) - c.base)=(n:Int):=by
  rw [show c.base + (n:Int) - c.base=(n:Int) by omega]
  exact Y1
 rw [show (c.base + (n:Int) - c.base).toNat=n by omega]
 repeat' first | refine s_ ?_ | fail
 refine kp [(0,.ref 0 0),(4,.d (.ptr (.agg [.int .i64 (deP s).kd,.int .i64 (c.base + (n:Int)),.str (deP s).bo])))] ⟨rfl,rfl,trivial⟩ ?_
 have hp2:Pp.Ok { p with u1:=p.u1++sD (c.una.take n) }:={ hp with u1:=k1_front hp.u1 _ }
 refine ow [15] [ChM c p,ChA { c with una:=c.una.drop n } { p with u1:=p.u1++sD (c.una.take n) } 1 2 3 4 5 6 :: ChR c p] (hc:=?_)
 iterate 4 refine aw (hc:=?_)
 refine vw 0 (hc:=?_)
 iterate 5 refine aw (hc:=?_)
 refine vw 0 (hc:=?_)
 refine Z12 ?_
 rw [hwr]
 refine qw 0 (p:=rowV 1 1 (p.u1++sD (c.una.take n)) (sD (c.una.drop n)) p.u2) (hmm:=rfl) (hs:=rfl) (hj:=rfl) (h:=fun _=>rfl) (hq:=fun rest _ ht=>?_) (hc:=?_)
 · rw [← row_front 1 p.u1 p.u2 c.una n hnl]
   exact Q_rowSlice (pre:=p.u1) (xs:=sD c.una) (post:=p.u2) (i:=(n:Int)) rfl rfl rfl rfl u35 sz9 (by omega) (by rw [sD_len];omega)
 iterate 2 refine aw (hc:=?_)
 refine sw 0 (hc:=?_)
 refine Z25 ?_
 have hrow:ChR c p=ChR { c with una:=c.una.drop n,base:=c.base + (n:Int) } { p with u1:=p.u1++sD (c.una.take n) }:=by
  unfold ChR
  rw [front p.u1 p.u2 c.una n]
 rw [hrow]
 refine Z17 ?_
 refine kp [(0,.ref 0 0),(4,.d (.ptr (.agg [.int .i64 (deP s).kd,.int .i64 (c.base + (n:Int)),.str (deP s).bo])))] ⟨rfl,rfl,trivial⟩ ?_
 repeat' first | refine s_ ?_ | fail
 have hf2:Ch.Few { c with una:=c.una.drop n,base:=c.base + (n:Int) }:={ hc with una:=by show (c.una.drop n).length≤_;rw [List.length_drop];omega }
 refine Z33 ?_
 refine (show GF _ _ _ _ ⟨_,ChM { c with una:=c.una.drop n,base:=c.base + (n:Int) } { p with u1:=p.u1++sD (c.una.take n) }⟩ from ?_)
 have hw2:Ch.win { c with una:=c.una.drop n,base:=c.base + (n:Int) }≤1000000:=hw
 have hF:fillN c.wai.length { c with una:=c.una.drop n,base:=c.base + (n:Int) }=fillN (Ch.wai { c with una:=c.una.drop n,base:=c.base + (n:Int) }).length { c with una:=c.una.drop n,base:=c.base + (n:Int) }:=rfl
 rw [hF]
 generalize ({ c with una:=c.una.drop n,base:=c.base + (n:Int) }:Ch)=c2 at hf2 hw2 ⊢
 generalize ({ p with u1:=p.u1++sD (c.una.take n) }:Pp)=p2 at hp2 ⊢
 generalize hFe:fillN c2.wai.length c2=F
 refine gLo (fun x:Ch×Pp=>⟨[(0,.ref 0 0)],ChM x.1 x.2⟩) (fun x=>x.1.wai.length) (fun x=>x.2.Ok∧x.1.Few∧x.1.win≤1000000∧fillN x.1.wai.length x.1=F) (c2,p2) ⟨hp2,hf2,hw2,hFe⟩ (leKp ⟨rfl,trivial⟩) (fun x hx Q' hn he hr hp=>?_)
 obtain ⟨c3,p3⟩:=x
 obtain ⟨hp3,hf3,hw3,hF3⟩:p3.Ok∧c3.Few∧c3.win≤1000000∧fillN c3.wai.length c3=F:=hx
 refine (show GF _ _ _ _ ⟨[(0,.ref 0 0)],ChM c3 p3⟩ from ?_)
 repeat' first | refine s_ ?_ | fail
 refine Z9 ?_
 iterate 18 refine ov (hc:=?_)
 refine Z36 ?_
 refine d_ (fun hb=>?_) (fun hb=>?_)
 · rw [Bool.and_eq_true] at hb
   have hb1:=oR hb.1
   have hb2:=oR hb.2
   rw [sD_len] at hb1 hb2
   obtain ⟨m,r,hwr2⟩:∃ m r,c3.wai=m :: r:=by
    cases hq:c3.wai with
    | nil=>rw [hq] at hb1;simp at hb1
    | cons m r=>exact ⟨m,r,rfl⟩
   have q41:=c41 c3 m hf3
   have hwl:0 < c3.wai.length:=by omega
   have hsd:(sD c3.wai)[0]? = some (.str m):=by rw [hwr2];rfl
   repeat' first | refine s_ ?_ | fail
   refine kp [(73,rowV 2 1 p3.w1 (sD c3.wai) p3.w2),(69,.ref 0 0),(0,.ref 0 0)] ⟨rfl,rfl,rfl,trivial⟩ ?_
   refine gq (p:=.ref 2 (rlo 1 p3.w1 (sD c3.wai) p3.w2 + (0:Int).toNat * 1)) (by exact rfl) (fun _ ht=>by exact Q_rowIndex (n:=(sD c3.wai).length) rfl rfl (by omega) (by rw [sD_len];exact_mod_cast hwl) u35 sz9 ht) ?_
   refine gq (p:=.d (.str m)) (by exact rfl) (fun _ ht=>by exact Q_rowLeaf (pre:=p3.w1) (xs:=sD c3.wai) (post:=p3.w2) (i:=0) (f:=0) (k:=1) rfl rfl (by rw [rlo_ne (sD_ne hwl)];rfl) hsd rfl (row_k hp3.w1 (sD_k _) hp3.w2) u9 rfl rfl ht) ?_
   repeat' first | refine s_ ?_ | fail
   refine (show GF _ _ _ _ ⟨_,ChM c3 p3++[]⟩ from ?_)
   refine cj (by exact rfl) q41 hp3 (fun p4 hp4=>?_)
   rw [List.append_nil]
   refine Z33 ?_
   repeat' first | refine s_ ?_ | fail
   have hf4:=nextC_few hf3 m (by omega)
   obtain ⟨hw4,hwin4⟩:=nextC_wai c3 m
   have hF4:fillN r.length { nextC c3 m with wai:=r }=F:=by
    rw [← hF3,hwr2]
    show _=fillN (r.length + 1) c3
    conv=>rhs;unfold fillN
    rw [hwr2]
    show _=(if _ then _ else _)
    rw [if_pos hb2]
   rw [hwr2] at hw4
   rw [← hwin4] at hw3
   generalize nextC c3 m=c4 at hf4 hw4 hw3 hF4 ⊢
   refine gq (p:=rowV 2 1 (p4.w1++sD (c4.wai.take 1)) (sD (c4.wai.drop 1)) p4.w2) (by exact rfl) (fun _ ht=>?_) ?_
   · rw [← row_front 2 p4.w1 p4.w2 c4.wai 1 (by rw [hw4];simp)]
     exact Q_rowSlice (pre:=p4.w1) (xs:=sD c4.wai) (post:=p4.w2) (i:=1) rfl rfl rfl rfl u35 sz9 (by decide) (by rw [sD_len,hw4];simp;omega)
   have hrow4:ChR c4 p4=ChR { c4 with wai:=c4.wai.drop 1 } { p4 with w1:=p4.w1++sD (c4.wai.take 1) }:=by
    unfold ChR
    rw [front p4.w1 p4.w2 c4.wai 1]
   rw [show ChM c4 p4=ChA c4 p4 1 2 3 4 5 6 :: ChR c4 p4 from rfl,hrow4]
   repeat' first | refine s_ ?_ | fail
   have hp5:Pp.Ok { p4 with w1:=p4.w1++sD (c4.wai.take 1) }:={ hp4 with w1:=k1_front hp4.w1 _ }
   have hf5:Ch.Few { c4 with wai:=c4.wai.drop 1 }:={ hf4 with wai:=by show (c4.wai.drop 1).length≤_;rw [List.length_drop];have:=hf4.wai;omega }
   have hd:c4.wai.drop 1=r:=by rw [hw4];rfl
   refine toL (hn _ ({ c4 with wai:=c4.wai.drop 1 },{ p4 with w1:=p4.w1++sD (c4.wai.take 1) }) ⟨hp5,hf5,hw3,?_⟩ ?_ ?_)
   · show fillN (c4.wai.drop 1).length { c4 with wai:=c4.wai.drop 1 }=F
     rw [hd];exact hF4
   · show (c4.wai.drop 1).length < c3.wai.length
     rw [hd,hwr2];simp
   · exact leKp ⟨rfl,trivial⟩
 · have hst:fillN c3.wai.length c3=c3:=by
    cases hq:c3.wai with
    | nil=>rfl
    | cons m r=>
     rw [sD_len,sD_len,hq] at hb
     show fillN (r.length + 1) c3=c3
     unfold fillN
     rw [hq]
     have h1:¬ ((c3.una.length:Int) < c3.win):=by
      intro h
      rw [decide_eq_true h] at hb
      simp at hb
     show (if _ then _ else _)=_
     rw [if_neg h1]
   rw [hst] at hF3
   subst hF3
   repeat' first | refine s_ ?_ | fail
   refine Z15 ?_
   repeat' first | refine s_ ?_ | fail
   exact Y8
end
section
noncomputable def asg60:Code:=match Tryd.f60.body with
 | some (.seq _ (.seq _ (.seq _ (.seq (.block _ (.seq _ (.cond _ _ (.seq _ (.cond _ (.seq _ (.seq _ (.block _ (.rangeFunc _ _ a _)))) _))))) _))))=>a
 | _=>.skip
noncomputable def bod60:Code:=match Tryd.f60.body with
 | some (.seq _ (.seq _ (.seq _ (.seq (.block _ (.seq _ (.cond _ _ (.seq _ (.cond _ (.seq _ (.seq _ (.block _ (.rangeFunc _ _ _ b)))) _))))) _))))=>b
 | _=>.skip
def opsOf:Code→Array Oper
 | .region _ ops _=>ops
 | _=>#[]
noncomputable def ops7:Array Oper:=opsOf asg60
noncomputable def ops8:Array Oper:=match bod60 with
 | .block _ (.region _ ops _)=>ops
 | _=>#[]
theorem asg60_eq:asg60=.region 7 ops7 false:=rfl
theorem bod60_eq:bod60=.block 2 (.region 8 ops8 false):=rfl
def Ch2 (c:Ch) (p:Pp):List (List PV):=ChA c p 3 4 5 6 7 8 :: [.ref 0 0] :: [.ref 0 0] :: (ChR c p++[])
theorem g7 {S0:Reg} {O0:Owns} {w0:World} {m0:List Nat} (hm0:m0.length≤3) (c:Ch) (p:Pp) (q:Pk):GF ⟨Tryd.prog,95,S0,O0,w0,m0,[],[]⟩ [] (.ops ops7 [0,1]) (fun e s'=>e=.normal∧s'=⟨[(2,.ref 1 0),(6,.d (.ptr q.d))],Ch2 c p⟩) ⟨[(2,.ref 1 0),(46,.d q.d)],Ch2 c p⟩:=by
 unfold Pk.d
 iterate 2 refine s_ ?_
 refine fz true (by exact rfl) ?_ (by omega) (by show (PV.refsBs 9 (ChA c p 3 4 5 6 7 8) && (true && (true && (ChR c p).all (PV.refsBs 9))))=true;rw [ChR_refs];rfl)
 refine kp [(2,.ref 1 0),(6,.d (.ptr (.agg [.int .i64 q.kd,.int .i64 q.nu,.str q.bo])))] ⟨rfl,rfl,trivial⟩ ?_
 exact toO (gN ⟨rfl,rfl⟩)
theorem g8 {S0:Reg} {O0:Owns} {w0:World} {m0:List Nat} (hm0:m0.length≤3) (c:Ch) (p:Pp) (hp:p.Ok) (hc:c.Few) (q:Pk):GF ⟨Tryd.prog,95,S0,O0,w0,m0,[],[]⟩ [] (.ops ops8 [0,1,2]) (fun e s'=>e=.normal∧∃ p':Pp,p'.Ok∧s'=⟨[],Ch2 (delC c q) p'⟩) ⟨[(2,.ref 1 0),(6,.d (.ptr q.d))],Ch2 c p⟩:=by
 have q64:=c64 c q hc
 unfold Pk.d at q64 ⊢
 iterate 2 refine s_ ?_
 refine (show GF _ _ _ _ ⟨_,Ch2 c p⟩ from ?_)
 refine cj2 (by exact rfl) q64 hp (fun p' hp'=>?_)
 refine kp [] trivial ?_
 exact toO (gN ⟨rfl,p',hp',rfl⟩)
theorem nodef7:∀ (i:Nat) o,ops7[i]? = some o→∀ c,o.op ≠ .defer c:=by
 intro i o ho c h
 match i,ho with
 | 0,ho=>injection (show some _=some o from ho) with ho;subst ho;cases h
 | 1,ho=>injection (show some _=some o from ho) with ho;subst ho;cases h
 | i + 2,ho=>exact absurd (Array.getElem?_eq_some_iff.1 ho).1 (Nat.not_lt_of_le (Nat.le_add_left 2 i))
theorem nodef8:∀ (i:Nat) o,ops8[i]? = some o→∀ c,o.op ≠ .defer c:=by
 intro i o ho c h
 match i,ho with
 | 0,ho=>injection (show some _=some o from ho) with ho;subst ho;cases h
 | 1,ho=>injection (show some _=some o from ho) with ho;subst ho;cases h
 | 2,ho=>injection (show some _=some o from ho) with ho;subst ho;cases h
 | i + 3,ho=>exact absurd (Array.getElem?_eq_some_iff.1 ho).1 (Nat.not_lt_of_le (Nat.le_add_left 3 i))
theorem notOut {K:Ctx} {T:GS→Prop}:¬ LetsOut (fun e a' w'=>∃ s',(e=.normal∧T s')∧At K s' a' w'):=fun ⟨_,_,_,⟨h,_⟩,_⟩=>by cases h
theorem round60 {S:Reg} {O:Owns} {m l1 l2:List Nat} {w:World} {l fn D:Nat} {tmps:Array Value} {v:Value} (c:Ch) (p:Pp) (hp:p.Ok) (hc:c.Few) (q:Pk) (henv:Env S O w S O m (Ch2 c p) w) (hl:w.heap[l]? = some (.loop (recX fn tmps #[46] asg60 bod60 D))) (hS:∀ i,¬ S l i) (hO:O l=none) (hsz:tmps.size=95)
 (ht:RP w S O m l1 (.ref 1 0) (tmps.getD 2 undef)) (hv:RP w S O m l2 (.d q.d) v):
 RoundIn Fence.wide 1 Tryd.prog l fn (((#[46]:Array Tmp).zip #[v]).foldl (fun tmps (t,a)=>tmps.setIfInBounds t a) tmps) asg60 bod60 w (fun e w'=>e=.returned (.bool true)∧∃ (p':Pp) (S3:Reg) (O3:Owns) (m3:List Nat),p'.Ok∧Env S O w S3 O3 m3 (Ch2 (delC c q) p') w'∧m.take 3 <+: m3):=by
 have hml:m.length=9:=henv.mlen
 have hm3:(m.take 3).length≤3:=by rw [List.length_take];omega
 have hz:(((#[46]:Array Tmp).zip #[v]).foldl (fun tmps (t,a)=>tmps.setIfInBounds t a) tmps)=tmps.setIfInBounds 46 v:=by simp
 rw [hz]
 have hat:At ⟨Tryd.prog,95,S,O,w,m.take 3,[],[]⟩ ⟨[(2,.ref 1 0),(46,.d q.d)],Ch2 c p⟩ { tmps:=tmps.setIfInBounds 46 v,defers:=[] } w:=by
  refine ⟨S,O,m,henv,rfl,by simp [hsz],List.take_prefix _ _,fun i pv hp=>?_⟩
  have h46:(tmps.setIfInBounds 46 v).getD 46 undef=v:=by
   rw [Array.getD_eq_getD_getElem?,Array.getElem?_setIfInBounds_self_of_lt (by omega)];rfl
  have h2:(tmps.setIfInBounds 46 v).getD 2 undef=tmps.getD 2 undef:=by
   rw [Array.getD_eq_getD_getElem?,Array.getD_eq_getD_getElem?,Array.getElem?_setIfInBounds_ne (by decide)]
  have hp':[(2,PV.ref 1 0),(46,PV.d q.d)].lookup i=some pv:=hp
  rw [List.lookup_cons] at hp'
  by_cases hi:i=2
  · subst hi
    injection hp' with hp'
    subst hp'
    show RP w S O m [2,0] (.ref 1 0) ((tmps.setIfInBounds 46 v).getD 2 undef)
    rw [h2]
    generalize tmps.getD 2 undef=u at ht
    cases ht with | ref _ _ _ r h=>exact .ref _ _ _ r h
  · have hi2:(i == 2)=false:=by simpa using hi
    rw [hi2] at hp'
    rw [List.lookup_cons] at hp'
    by_cases hj:i=46
    · subst hj
      injection hp' with hp'
      subst hp'
      show RP w S O m [46,0] (.d q.d) ((tmps.setIfInBounds 46 v).getD 46 undef)
      rw [h46]
      cases hv with | d _ _ _ h=>exact .d _ _ _ h
    · have hj2:(i == 46)=false:=by simpa using hj
      rw [hj2] at hp'
      cases hp'
 refine roundIn_of_wpIn trivial ?_
 rw [asg60_eq]
 refine wpIn_mono (wpIn_region (wpOps_round 1 l nodef7 notOut _ _ _ (g7 hm3 c p q _ _ hat))) ?_
 rintro e a1 w1 ⟨s',⟨rfl,rfl⟩,S1,O1,m1,hr1⟩
 have hlw:l < w.heap.size:=(Array.getElem?_eq_some_iff.1 hl).1
 obtain ⟨hS1,hO1,hh1⟩:=hr1.env.apart hlw hS hO
 have hl1:=hh1.trans hl
 refine ⟨_,run_beginRound hl1 rfl,?_⟩
 have hext:=ext_putObj (S:=S1) (Obj.loop { recX fn tmps #[46] asg60 bod60 D with state:=.busy }) hl1 (fun _ _ _ h=>by cases h) (fun _ _ _ h=>by cases h) hS1
 have hb2:=hr1.env.putBase (Obj.loop { recX fn tmps #[46] asg60 bod60 D with state:=.busy }) hl1 (fun _ _ _ h=>by cases h) (fun _ _ _ h=>by cases h) hS1 hO1
 have hat2:At ⟨Tryd.prog,95,S1,O1,w1.putObj l (.loop { recX fn tmps #[46] asg60 bod60 D with state:=.busy }),m.take 3,[],[]⟩ ⟨[(2,.ref 1 0),(6,.d (.ptr q.d))],Ch2 c p⟩ a1 (w1.putObj l (.loop { recX fn tmps #[46] asg60 bod60 D with state:=.busy })):=
  ⟨S1,O1,m1,hb2,hr1.defers,hr1.size,hr1.pre,fun i pv hp=>(hr1.slots i pv hp).ext hext (fun _ _ h=>h) (fun _ _ _ h=>h) (fun _ _ h=>h)⟩
 rw [bod60_eq]
 refine wpIn_block (wpIn_mono (wpIn_region (wpOps_round 1 l nodef8 notOut _ _ _ (g8 hm3 c p hp hc q _ _ hat2))) ?_)
 rintro e a2 w3 ⟨s',⟨rfl,p',hp',rfl⟩,S3,O3,m3,hr3⟩
 have hlw1:l < (w1.putObj l (.loop { recX fn tmps #[46] asg60 bod60 D with state:=.busy })).heap.size:=by simpa using (Array.getElem?_eq_some_iff.1 hl1).1
 obtain ⟨hS3,hO3,hh3⟩:=hr3.env.apart hlw1 hS1 hO1
 have hself:(w1.putObj l (.loop { recX fn tmps #[46] asg60 bod60 D with state:=.busy })).heap[l]? = some (.loop { recX fn tmps #[46] asg60 bod60 D with state:=.busy }):=by
  have:=(Array.getElem?_eq_some_iff.1 hl1).1
  simp [World.putObj,this]
 have hl3:=hh3.trans hself
 refine ⟨_,_,run_endRound none hl3,rfl,p',S3,O3,m3,hp',?_,hr3.pre⟩
 have h3:=hr3.env.swapL hl1 (fun _ _ _ h=>by cases h) (fun _ _ _ h=>by cases h) (fun _ _ h=>by cases h) hS1 hO1
 exact Env.trans hr1.env h3
end
end Go.Proofs.YtoonleefemkalaaDoor
