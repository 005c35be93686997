import Derived.Test.YtoonleefemkalaaDoorM1
import Derived.Test.YtoonleefemkalaaDoorM2
import Derived.Test.YtoonleefemkalaaDoorM3
import Derived.Test.YtoonleefemkalaaDoorM4
import Derived.Test.YtoonleefemkalaaDoorM5
import Derived.Test.YtoonleefemkalaaDoorM6
import Derived.Test.YtoonleefemkalaaDoorM7
import Derived.Test.YtoonleefemkalaaDoorM8
import Derived.Test.YtoonleefemkalaaDoorM9
import Derived.Test.YtoonleefemkalaaDoorM10
import Derived.Test.YtoonleefemkalaaDoorM11
import Derived.Test.YtoonleefemkalaaDoorM12
import Derived.Test.YtoonleefemkalaaDoorM13
import Derived.Test.YtoonleefemkalaaDoorM14
import Derived.Test.YtoonleefemkalaaDoorM15
import Derived.Test.YtoonleefemkalaaDoorM16
import Derived.Test.YtoonleefemkalaaDoorM17
import Derived.Test.YtoonleefemkalaaDoorM18
import Derived.Test.YtoonleefemkalaaDoorProg
import Derived.KernelRfl
/- Contracts of functions. Conditions: none. -/
set_option linter.unusedSimpArgs false
set_option linter.unusedVariables false
set_option maxRecDepth 20000
namespace Go.Proofs.YtoonleefemkalaaDoor
open Go
theorem sz5:(Tryd.prog.info? 5).map (·.size)=some 1:=by kernel_rfl
theorem inf9:(Tryd.prog.info? 9).map (fun i=>(i.zero,i.size,i.bytes))=some (some (.string ⟨#[]⟩),1,16):=by kernel_rfl
theorem sz9:(Tryd.prog.info? 9).map (·.size)=some 1:=by kernel_rfl
theorem inf23:(Tryd.prog.info? 23).map (fun i=>(i.zero,i.size,i.bytes))=some (some (.agg #[.int .i64 0,.int .i64 0,.string ⟨#[]⟩]),3,32):=by kernel_rfl
theorem inf28:(Tryd.prog.info? 28).map (fun i=>(i.zero,i.size,i.bytes))=some (some (.agg #[.int .i64 0,.int .i64 0,.string ⟨#[]⟩]),3,32):=by kernel_rfl
theorem sz28:(Tryd.prog.info? 28).map (·.size)=some 3:=by kernel_rfl
theorem zr44:(Tryd.prog.info? 44).map (·.zero)=some (some (.agg #[.int .i64 0,.int .i64 0,.int .i64 0,.slice none 0 0,.slice none 0 0,.int .i64 0,.slice none 0 0,.slice none 0 0,.slice none 0 0,.slice none 0 0])):=by kernel_rfl
theorem inf86:(Tryd.prog.info? 86).map (fun i=>(i.zero,i.size,i.bytes))=some (some (.pointer none),1,8):=by kernel_rfl
theorem sz86:(Tryd.prog.info? 86).map (·.size)=some 1:=by kernel_rfl
theorem u1:Tryd.prog.underlying 1=some (TypeDesc.func #[] #[] false):=Tryd.underlying1
theorem u2:Tryd.prog.underlying 2=some (TypeDesc.int IntKind.i64):=Tryd.underlying2
theorem u3:Tryd.prog.underlying 3=some (TypeDesc.int IntKind.i64):=Tryd.underlying3
theorem u4:Tryd.prog.underlying 4=some TypeDesc.bool:=Tryd.underlying4
theorem u5:Tryd.prog.underlying 5=some (TypeDesc.int IntKind.u8):=Tryd.underlying5
theorem u9:Tryd.prog.underlying 9=some TypeDesc.string:=Tryd.underlying9
theorem u23:Tryd.prog.underlying 23=some (TypeDesc.struct #[{ name:="Kind",type:=3,offset:=0,embedded:=false,tag:="",pkgPath:="",byteOffset:=0 },{ name:="Number",type:=3,offset:=1,embedded:=false,tag:="",pkgPath:="",byteOffset:=8 },{ name:="Body",type:=9,offset:=2,embedded:=false,tag:="",pkgPath:="",byteOffset:=16 }]):=Tryd.underlying23
theorem u25:Tryd.prog.underlying 25=some (TypeDesc.int IntKind.i64):=Tryd.underlying25
theorem u28:Tryd.prog.underlying 28=some (TypeDesc.struct #[{ name:="Kind",type:=3,offset:=0,embedded:=false,tag:="",pkgPath:="",byteOffset:=0 },{ name:="Number",type:=3,offset:=1,embedded:=false,tag:="",pkgPath:="",byteOffset:=8 },{ name:="Body",type:=9,offset:=2,embedded:=false,tag:="",pkgPath:="",byteOffset:=16 }]):=Tryd.underlying28
theorem u35:Tryd.prog.underlying 35=some (TypeDesc.slice 9):=Tryd.underlying35
theorem u36:Tryd.prog.underlying 36=some (TypeDesc.slice 23):=Tryd.underlying36
theorem u38:Tryd.prog.underlying 38=some (TypeDesc.struct #[{ name:="Window",type:=3,offset:=0,embedded:=false,tag:="",pkgPath:="",byteOffset:=0 },{ name:="Base",type:=3,offset:=1,embedded:=false,tag:="",pkgPath:="",byteOffset:=8 },{ name:="Next",type:=3,offset:=2,embedded:=false,tag:="",pkgPath:="",byteOffset:=16 },{ name:="Unacked",type:=35,offset:=3,embedded:=false,tag:="",pkgPath:="",byteOffset:=24 },{ name:="Waiting",type:=35,offset:=4,embedded:=false,tag:="",pkgPath:="",byteOffset:=48 },{ name:="Expect",type:=3,offset:=5,embedded:=false,tag:="",pkgPath:="",byteOffset:=72 },{ name:="Early",type:=36,offset:=6,embedded:=false,tag:="",pkgPath:="",byteOffset:=80 },{ name:="Delivered",type:=35,offset:=7,embedded:=false,tag:="",pkgPath:="",byteOffset:=104 },{ name:="To",type:=35,offset:=8,embedded:=false,tag:="",pkgPath:="",byteOffset:=128 },{ name:="Back",type:=35,offset:=9,embedded:=false,tag:="",pkgPath:="",byteOffset:=152 }]):=Tryd.underlying38
theorem u40:Tryd.prog.underlying 40=some (TypeDesc.struct #[{ name:="Kind",type:=3,offset:=0,embedded:=false,tag:="",pkgPath:="",byteOffset:=0 },{ name:="Back",type:=4,offset:=1,embedded:=false,tag:="",pkgPath:="",byteOffset:=8 },{ name:="Index",type:=3,offset:=2,embedded:=false,tag:="",pkgPath:="",byteOffset:=16 },{ name:="At",type:=3,offset:=3,embedded:=false,tag:="",pkgPath:="",byteOffset:=24 }]):=Tryd.underlying40
theorem u42:Tryd.prog.underlying 42=some (TypeDesc.slice 28):=Tryd.underlying42
theorem u44:Tryd.prog.underlying 44=some (TypeDesc.struct #[{ name:="Window",type:=3,offset:=0,embedded:=false,tag:="",pkgPath:="",byteOffset:=0 },{ name:="Base",type:=3,offset:=1,embedded:=false,tag:="",pkgPath:="",byteOffset:=8 },{ name:="Next",type:=3,offset:=2,embedded:=false,tag:="",pkgPath:="",byteOffset:=16 },{ name:="Unacked",type:=35,offset:=3,embedded:=false,tag:="",pkgPath:="",byteOffset:=24 },{ name:="Waiting",type:=35,offset:=4,embedded:=false,tag:="",pkgPath:="",byteOffset:=48 },{ name:="Expect",type:=3,offset:=5,embedded:=false,tag:="",pkgPath:="",byteOffset:=72 },{ name:="Early",type:=42,offset:=6,embedded:=false,tag:="",pkgPath:="",byteOffset:=80 },{ name:="Delivered",type:=35,offset:=7,embedded:=false,tag:="",pkgPath:="",byteOffset:=104 },{ name:="To",type:=35,offset:=8,embedded:=false,tag:="",pkgPath:="",byteOffset:=128 },{ name:="Back",type:=35,offset:=9,embedded:=false,tag:="",pkgPath:="",byteOffset:=152 }]):=Tryd.underlying44
theorem u57:Tryd.prog.underlying 57=some (TypeDesc.slice 40):=Tryd.underlying57
theorem u75:Tryd.prog.underlying 75=some (TypeDesc.array 12 5):=Tryd.underlying75
theorem u76:Tryd.prog.underlying 76=some (TypeDesc.slice 5):=Tryd.underlying76
theorem u80:Tryd.prog.underlying 80=some (TypeDesc.array 4 5):=Tryd.underlying80
theorem u99:Tryd.prog.underlying 99=some (TypeDesc.slice 86):=Tryd.underlying99
theorem u121:Tryd.prog.underlying 121=some (TypeDesc.pointer 25):=Tryd.underlying121
open E
structure Hd (A:Prop):Prop where
 o:A
variable {A B:Prop}
theorem Z0 (h:A) (g:Hd A→B:=by intro zz;refine (show GF _ _ _ _ ⟨_,[[.d (.int .i64 c.win),.d (.int .i64 c.base),.d (.int .i64 c.nxt),rowV 4 1 [] (sD c.una) [],rowV 5 1 [] (sD c.wai) [],.d (.int .i64 c.exp),rowV 6 3 [] (pD c.ear) [],rowV 7 1 [] (sD c.del) [],rowV 8 1 [] (sD c.tos) [],rowV 9 1 [] (sD c.bak) []],zcel,unk 10,unk 10,flat ([]++sD c.una++[]),flat ([]++sD c.wai++[]),flat ([]++pD c.ear++[]),flat ([]++sD c.del++[]),flat ([]++sD c.tos++[]),flat ([]++sD c.bak++[])]⟩ from ?_);exact zz.o):B:=g ⟨h⟩
theorem Z1 (h:A) (g:Hd A→B:=by intro zz;refine f_ ?_;exact zz.o):B:=g ⟨h⟩
theorem Z2 (h:A) (g:Hd A→B:=by intro zz;refine gK_n (row_k (by simp) (sD_k _) (by simp)) (row_k (by simp) (sD_k _) (by simp)) (row_k (by simp) (pD_k _) (by simp)) (row_k (by simp) (sD_k _) (by simp)) (row_k (by simp) (sD_k _) (by simp)) (row_k (by simp) (sD_k _) (by simp)) hm0 ?_;exact zz.o):B:=g ⟨h⟩
theorem Z3 (h:A) (g:Hd A→B:=by intro zz;refine kp [(2,.ref 0 0),(3,.ref 1 0),(4,.ref 2 0),(7,.ref 12 0)] ⟨rfl,rfl,rfl,rfl,trivial⟩ ?_;exact zz.o):B:=g ⟨h⟩
theorem Z4 (h:A) (g:Hd A→B:=by intro zz;refine kp [(2,.ref 0 0),(3,.ref 1 0),(4,.ref 2 0)] ⟨rfl,rfl,rfl,trivial⟩ ?_;exact zz.o):B:=g ⟨h⟩
theorem Z5 (h:A) (g:Hd A→B:=by intro zz;refine kp [(8,.d (.int .i64 e)),(2,.ref 0 0),(4,.ref 2 0)] ⟨rfl,rfl,rfl,trivial⟩ ?_;exact zz.o):B:=g ⟨h⟩
theorem Z6 (h:A) (g:Hd A→B:=by intro zz;refine ov (hc:=?_);exact zz.o):B:=g ⟨h⟩
theorem Z7 (h:A) (g:Hd A→B:=by intro zz;refine oe (hc:=?_);exact zz.o):B:=g ⟨h⟩
theorem Z8 (h:A) (g:Hd A→B:=by intro zz;refine fz true (by exact rfl) ?_;exact zz.o):B:=g ⟨h⟩
theorem Z9 (h:A) (g:Hd A→B:=by intro zz;refine oo (hc:=?_);exact zz.o):B:=g ⟨h⟩
theorem Z10 (h:A) (g:Hd A→B:=by intro zz;refine kp [(4,.d (.ptr (.agg [.int .i64 (deP x).kd,.int .i64 (deP x).nu,.str (deP x).bo]))),(2,.ref 7 0)] ⟨rfl,rfl,trivial⟩ ?_;exact zz.o):B:=g ⟨h⟩
theorem Z11 (h:A) (g:Hd A→B:=by intro zz;refine kp [(2,.ref 0 0),(4,.ref 2 0)] ⟨rfl,rfl,trivial⟩ ?_;exact zz.o):B:=g ⟨h⟩
theorem Z12 (h:A) (g:Hd A→B:=by intro zz;refine aw (hc:=?_);exact zz.o):B:=g ⟨h⟩
theorem Z13 (h:A) (g:Hd A→B:=by intro zz;refine gK_t (row_k (by simp) (sD_k _) (by simp)) (row_k (by simp) (sD_k _) (by simp)) (row_k (by simp) (pD_k _) (by simp)) (row_k (by simp) (sD_k _) (by simp)) (row_k (by simp) (sD_k _) (by simp)) hm0 ?_;exact zz.o):B:=g ⟨h⟩
theorem Z14 (h:A) (g:Hd A→B:=by intro zz;refine (show GF _ _ _ _ ⟨_,ChM c p++[]⟩ from ?_);exact zz.o):B:=g ⟨h⟩
theorem Z15 (h:A) (g:Hd A→B:=by intro zz;refine toL (he _ _ ?_);exact zz.o):B:=g ⟨h⟩
theorem Z16 (h:A) (g:Hd A→B:=by intro zz;refine t_ ?_;exact zz.o):B:=g ⟨h⟩
theorem Z17 (h:A) (g:Hd A→B:=by intro zz;refine s_ ?_;exact zz.o):B:=g ⟨h⟩
theorem Z18 (h:A) (g:Hd A→B:=by intro zz;refine gq (by exact rfl) (fun _ ht=>Q_rowIndex rfl rfl (by decide) (by decide) u99 sz86 ht) ?_;exact zz.o):B:=g ⟨h⟩
theorem Z19 (h:A) (g:Hd A→B:=by intro zz;refine oqw (hs:=rfl) (hj:=rfl) (h:=fun _=>rfl) (hq:=fun rest _ ht=>Q_rowIndex (n:=(sD c.tos).length) rfl rfl (by omega) (by rw [sD_len];simpa using hi) u35 sz9 ht) (hc:=?_);exact zz.o):B:=g ⟨h⟩
theorem Z20 (h:A) (g:Hd A→B:=by intro zz;refine kp [(0,.ref 0 0),(3,.d (.ptr (.agg [.int .i64 k,.bool false,.int .i64 (i:Int),.int .i64 at_]))),(4,.d (.int .i64 0))] ⟨rfl,rfl,rfl,trivial⟩ ?_;exact zz.o):B:=g ⟨h⟩
theorem Z21 (h:A) (g:Hd A→B:=by intro zz;refine oqw (hs:=rfl) (hj:=rfl) (h:=fun _=>rfl) (hq:=fun rest _ _=>Q_arrAddr rfl rfl u75 sz5 (by decide) (by decide)) (hc:=?_);exact zz.o):B:=g ⟨h⟩
theorem Z22 (h:A) (g:Hd A→B:=by intro zz;refine gyl rfl rfl (y_buildSlice0 u35 inf9) ?_;exact zz.o):B:=g ⟨h⟩
theorem Z23 (h:A) (g:Hd A→B:=by intro zz;refine kp [(4,.d (.int .i64 0))] ⟨rfl,trivial⟩ ?_;exact zz.o):B:=g ⟨h⟩
theorem Z24 (h:A) (g:Hd A→B:=by intro zz;refine rw_seq ?_;exact zz.o):B:=g ⟨h⟩
theorem Z25 (h:A) (g:Hd A→B:=by intro zz;refine ew (hc:=?_);exact zz.o):B:=g ⟨h⟩
theorem Z26 (h:A) (g:Hd A→B:=by intro zz;refine oig (m:=3) _ (hd:=fun _=>⟨hz0,hgx2,rfl⟩) (hc:=?_);exact zz.o):B:=g ⟨h⟩
theorem Z27 (h:A) (g:Hd A→B:=by intro zz;refine kp [(2,.ref 0 0),(4,.ref 1 0)] ⟨rfl,rfl,trivial⟩ ?_;exact zz.o):B:=g ⟨h⟩
theorem Z28 (h:A) (g:Hd A→B:=by intro zz;refine toL (hr _ ?_);exact zz.o):B:=g ⟨h⟩
theorem Z29 (h:A) (g:Hd A→B:=by intro zz;refine zv (hc:=?_);exact zz.o):B:=g ⟨h⟩
theorem Z30 (h:A) (g:Hd A→B:=by intro zz;refine ocf (hcf:=q44) (hp:=hp) (hc:=?_);exact zz.o):B:=g ⟨h⟩
theorem Z31 (h:A) (g:Hd A→B:=by intro zz;refine congrArg (GS.mk _) ?_;exact zz.o):B:=g ⟨h⟩
theorem Z32 (h:A) (g:Hd A→B:=by intro zz;refine enm (mem':=[flat []]) (by exact rfl) rfl ?_;exact zz.o):B:=g ⟨h⟩
theorem Z33 (h:A) (g:Hd A→B:=by intro zz;refine kp [(0,.ref 0 0)] ⟨rfl,trivial⟩ ?_;exact zz.o):B:=g ⟨h⟩
theorem Z34 (h:A) (g:Hd A→B:=by intro zz;refine ze (hc:=?_);exact zz.o):B:=g ⟨h⟩
theorem Z35 (h:A) (g:Hd A→B:=by intro zz;refine en (by exact rfl) ?_;exact zz.o):B:=g ⟨h⟩
theorem Z36 (h:A) (g:Hd A→B:=by intro zz;refine Z7 ?_;refine Z17 ?_;exact zz.o):B:=g ⟨h⟩
theorem Z37 (h:A) (g:Hd A→B:=by intro zz;refine Z6 ?_;refine Z6 ?_;exact zz.o):B:=g ⟨h⟩
theorem Z38 (h:A) (g:Hd A→B:=by intro zz;refine Z4 ?_;refine Z9 ?_;exact zz.o):B:=g ⟨h⟩
theorem Y0 (g:A:=by exact enj (mem':=Ch2 c3 p3) (by exact rfl) ⟨rfl,p3,hp3,rfl⟩ (msame (by show (PV.refsBs 9 (ChA c3 p3 3 4 5 6 7 8) && (true && (true && (ChR c3 p3++[]).all (PV.refsBs 9))))=true;rw [List.append_nil,ChR_refs];rfl))):A:=g
theorem Y1 (g:A:=by simp [IntKind.wrap,IntKind.signed,IntKind.bits];omega):A:=g
theorem Y2 (g:A:=by exact enj (mem':=ChM c p) (by exact rfl) ⟨rfl,p,hp,rfl⟩ (ChM_sub c p [])):A:=g
theorem Y3 (g:A:=by rw [List.map_cons,List.map_nil,rens_flat];rfl):A:=g
theorem Y4 (g:A:=by exact List.eq_nil_of_length_eq_zero (by omega)):A:=g
theorem Y5 (g:A:=by exact toL (hn _ (z + 1,c3,IntKind.i64.wrap (n + 1)) ⟨hlt,hf3,hF2⟩ (by dsimp only;omega) (Le_0 hm0 (.cons CSa (.cons CSa .nil)) SSa))):A:=g
theorem Y6 (g:A:=by rw [show (ChM c p).all (PV.refsBs 7)=(PV.refsBs 7 (ChA c p 1 2 3 4 5 6) && (ChR c p).all (PV.refsBs 7)) from rfl,ChR_refs];rfl):A:=g
theorem Y7 (g:A:=by exact toL (hn _ (z + 1) (idxL_step hz hgx (eq_false_of_ne_true hx)) (by omega) le_of)):A:=g
theorem Y8 (g:A:=by exact enj (mem':=ChM c3 p3) (by exact rfl) ⟨rfl,p3,hp3,rfl⟩ (ChM_sub c3 p3 [])):A:=g
theorem Y9 (g:A:=by exact toL (hn _ (z + 1,c2,n) ⟨hlt,hf2,hF2⟩ (by dsimp only;omega) (Le_0 hm0 (.cons CSa (.cons CSa .nil)) SSa))):A:=g
theorem Y10 (g:A:=by exact rw_skip (fun a w hat=>tail13 hm1 ⟨p,hp,rfl,rfl⟩ hat)):A:=g
theorem Y11 (g:A:=by exact Nat.le_of_ble_eq_true rfl):A:=g
theorem Y12 (g:A:=by exact toL (hn _ (z + 1,p.nu) ⟨hlt,by rw [hinv];rfl⟩ (by dsimp only;omega) le_of)):A:=g
theorem Y13 (g:A:=by exact enj (mem':=ChM c p') (by exact rfl) ⟨rfl,p',hp',rfl⟩ (ChM_sub c p' [])):A:=g
end Go.Proofs.YtoonleefemkalaaDoor
namespace Go.Proofs.YtoonleefemkalaaDoor
open Go Go.Proofs.YtoonleefemkalaaDoor.E
def tab:List (Nat×TI):=[(2,⟨true,1,[.int .i64],(.int .i64)⟩),
 (3,⟨true,1,[.int .i64],(.int .i64)⟩),
 (4,⟨true,1,[.bool],.bool⟩),
 (5,⟨true,1,[.int .u8],(.int .u8)⟩),
 (6,⟨true,1,[.int .u8],(.int .u8)⟩),
 (7,⟨false,4,[.int .i64,.int .i64,.bool,.int .u8],(.struct [(0,1,true),(1,1,true),(2,1,true),(3,1,true)])⟩),
 (8,⟨false,4,[.int .i64,.int .i64,.bool,.int .u8],(.struct [(0,1,true),(1,1,true),(2,1,true),(3,1,true)])⟩),
 (9,⟨true,1,[.str],.str⟩),
 (10,⟨true,1,[.str],.str⟩),
 (11,⟨true,1,[.str],.str⟩),
 (12,⟨true,1,[.int .u64],(.int .u64)⟩),
 (13,⟨false,2,[.str,.int .u64],(.struct [(0,1,true),(1,1,true)])⟩),
 (14,⟨false,2,[.str,.int .u64],(.struct [(0,1,true),(1,1,true)])⟩),
 (15,⟨true,1,[.ptr],.ptr⟩),
 (16,⟨true,1,[.ptr],.ptr⟩),
 (17,⟨true,1,[.ptr],.ptr⟩),
 (18,⟨false,1,[.ptr],(.struct [(0,1,true)])⟩),
 (19,⟨false,1,[.ptr],(.struct [(0,1,true)])⟩),
 (20,⟨true,1,[.ifc],.other⟩),
 (21,⟨true,1,[.int .i32],(.int .i32)⟩),
 (22,⟨false,3,[.int .i64,.int .i64,.str],(.struct [(0,1,true),(1,1,true),(2,1,true)])⟩),
 (23,⟨false,3,[.int .i64,.int .i64,.str],(.struct [(0,1,true),(1,1,true),(2,1,true)])⟩),
 (25,⟨true,1,[.int .i64],(.int .i64)⟩),
 (28,⟨false,3,[.int .i64,.int .i64,.str],(.struct [(0,1,true),(1,1,true),(2,1,true)])⟩),
 (35,⟨true,1,[.sl],(.slice 9 1 16 [.str])⟩),
 (36,⟨true,1,[.sl],(.slice 23 3 32 [.int .i64,.int .i64,.str])⟩),
 (37,⟨false,10,[.int .i64,.int .i64,.int .i64,.sl,.sl,.int .i64,.sl,.sl,.sl,.sl],(.struct [(0,1,true),(1,1,true),(2,1,true),(3,1,true),(4,1,true),(5,1,true),(6,1,true),(7,1,true),(8,1,true),(9,1,true)])⟩),
 (38,⟨false,10,[.int .i64,.int .i64,.int .i64,.sl,.sl,.int .i64,.sl,.sl,.sl,.sl],(.struct [(0,1,true),(1,1,true),(2,1,true),(3,1,true),(4,1,true),(5,1,true),(6,1,true),(7,1,true),(8,1,true),(9,1,true)])⟩),
 (39,⟨false,4,[.int .i64,.bool,.int .i64,.int .i64],(.struct [(0,1,true),(1,1,true),(2,1,true),(3,1,true)])⟩),
 (40,⟨false,4,[.int .i64,.bool,.int .i64,.int .i64],(.struct [(0,1,true),(1,1,true),(2,1,true),(3,1,true)])⟩),
 (42,⟨true,1,[.sl],(.slice 28 3 32 [.int .i64,.int .i64,.str])⟩),
 (43,⟨false,10,[.int .i64,.int .i64,.int .i64,.sl,.sl,.int .i64,.sl,.sl,.sl,.sl],(.struct [(0,1,true),(1,1,true),(2,1,true),(3,1,true),(4,1,true),(5,1,true),(6,1,true),(7,1,true),(8,1,true),(9,1,true)])⟩),
 (44,⟨false,10,[.int .i64,.int .i64,.int .i64,.sl,.sl,.int .i64,.sl,.sl,.sl,.sl],(.struct [(0,1,true),(1,1,true),(2,1,true),(3,1,true),(4,1,true),(5,1,true),(6,1,true),(7,1,true),(8,1,true),(9,1,true)])⟩),
 (54,⟨false,4,[.int .i64,.bool,.int .i64,.int .i64],(.struct [(0,1,true),(1,1,true),(2,1,true),(3,1,true)])⟩),
 (55,⟨true,1,[.sl],(.slice 54 4 32 [.int .i64,.bool,.int .i64,.int .i64])⟩),
 (57,⟨true,1,[.sl],(.slice 40 4 32 [.int .i64,.bool,.int .i64,.int .i64])⟩),
 (75,⟨false,12,[.int .u8,.int .u8,.int .u8,.int .u8,.int .u8,.int .u8,.int .u8,.int .u8,.int .u8,.int .u8,.int .u8,.int .u8],(.array 12 1)⟩),
 (76,⟨true,1,[.sl],(.slice 5 1 1 [.int .u8])⟩),
 (80,⟨false,4,[.int .u8,.int .u8,.int .u8,.int .u8],(.array 4 1)⟩),
 (86,⟨true,1,[.ptr],.ptr⟩),
 (90,⟨true,1,[.ptr],.ptr⟩),
 (91,⟨false,6,[.fn,.fn,.fn,.fn,.fn,.fn],(.array 6 1)⟩),
 (94,⟨false,2,[.int .i64,.int .i64],(.array 2 1)⟩),
 (96,⟨true,1,[.int .u64],(.int .u64)⟩),
 (99,⟨true,1,[.sl],(.slice 86 1 8 [.ptr])⟩),
 (104,⟨true,1,[.ptr],.ptr⟩),
 (116,⟨true,1,[.ifc],.other⟩),
 (117,⟨true,1,[.ifc],.other⟩),
 (121,⟨true,1,[.ptr],.ptr⟩),
 (126,⟨true,1,[.int .u64],(.int .u64)⟩),
 (130,⟨true,1,[.ifc],.other⟩),
 (131,⟨true,1,[.ifc],.other⟩),
 (133,⟨true,1,[.int .u8],(.int .u8)⟩),
 (137,⟨false,1,[.ptr],(.struct [(0,1,true)])⟩),
 (138,⟨false,1,[.ptr],(.struct [(0,1,true)])⟩),
 (139,⟨true,1,[.ptr],.ptr⟩),
 (143,⟨true,1,[.ifc],.other⟩),
 (146,⟨true,1,[.ifc],.other⟩),
 (148,⟨true,1,[.ifc],.other⟩),
 (149,⟨true,1,[.sl],(.slice 117 1 16 [.ifc])⟩),
 (153,⟨false,4,[.ptr,.ptr,.ptr,.str],(.struct [(0,1,true),(1,1,true),(2,1,true),(3,1,true)])⟩),
 (154,⟨false,4,[.ptr,.ptr,.ptr,.str],(.struct [(0,1,true),(1,1,true),(2,1,true),(3,1,true)])⟩),
 (155,⟨false,0,[],(.array 0 1)⟩),
 (156,⟨false,0,[],(.struct [(0,0,false)])⟩),
 (157,⟨false,0,[],(.struct [(0,0,false)])⟩),
 (160,⟨true,1,[.int .u32],(.int .u32)⟩),
 (161,⟨true,1,[.int .u8],(.int .u8)⟩),
 (163,⟨true,1,[.ptr],.ptr⟩),
 (164,⟨true,1,[.int .i32],(.int .i32)⟩),
 (165,⟨true,1,[.int .i32],(.int .i32)⟩),
 (166,⟨false,11,[.int .u64,.int .u64,.int .u32,.int .u8,.int .u8,.int .u8,.int .u8,.fn,.ptr,.int .i32,.int .i32],(.struct [(0,1,true),(1,1,true),(2,1,true),(3,1,true),(4,1,true),(5,1,true),(6,1,true),(7,1,true),(8,1,true),(9,1,true),(10,1,true)])⟩),
 (167,⟨false,11,[.int .u64,.int .u64,.int .u32,.int .u8,.int .u8,.int .u8,.int .u8,.fn,.ptr,.int .i32,.int .i32],(.struct [(0,1,true),(1,1,true),(2,1,true),(3,1,true),(4,1,true),(5,1,true),(6,1,true),(7,1,true),(8,1,true),(9,1,true),(10,1,true)])⟩),
 (170,⟨false,2,[.str,.int .u8],(.struct [(0,1,true),(1,1,true)])⟩),
 (171,⟨false,2,[.str,.int .u8],(.struct [(0,1,true),(1,1,true)])⟩),
 (172,⟨true,1,[.ptr],.ptr⟩),
 (174,⟨true,1,[.int .u16],(.int .u16)⟩),
 (175,⟨false,5,[.int .i32,.int .u16,.int .u16,.int .u32,.int .u32],(.struct [(0,1,true),(1,1,true),(2,1,true),(3,1,true),(4,1,true)])⟩),
 (176,⟨false,5,[.int .i32,.int .u16,.int .u16,.int .u32,.int .u32],(.struct [(0,1,true),(1,1,true),(2,1,true),(3,1,true),(4,1,true)])⟩),
 (177,⟨true,1,[.sl],(.slice 180 4 16 [.int .i32,.int .i32,.int .i32,.int .i32])⟩),
 (178,⟨true,1,[.int .i32],(.int .i32)⟩),
 (179,⟨false,4,[.int .i32,.int .i32,.int .i32,.int .i32],(.struct [(0,1,true),(1,1,true),(2,1,true),(3,1,true)])⟩),
 (180,⟨false,4,[.int .i32,.int .i32,.int .i32,.int .i32],(.struct [(0,1,true),(1,1,true),(2,1,true),(3,1,true)])⟩),
 (181,⟨true,1,[.ptr],.ptr⟩)]
theorem tabOk:tabB Tryd.prog tab=true:=by kernel_rfl
variable {n:Nat} {S0:Reg} {O0:Owns} {w0:World} {m0 Bs:List Nat} {ds:List Deferred} {fr:List Fr} {Q:Exit→GS→Prop} {s:GS} {ob:List (Bool×Bool)}
theorem st {fr':List Fr} {c c':Cf} {s':GS} (h:adv tab n fr c s=some (ob,fr',c',s')) (hg:GF ⟨Tryd.prog,n,S0,O0,w0,m0,Bs,ds⟩ fr' c' Q s') (ho:Obl ob:=by repeat first | exact Obl.nil | refine Obl.same ?_ | refine Obl.imp (fun h=>by simp_all) ?_):GF ⟨Tryd.prog,n,S0,O0,w0,m0,Bs,ds⟩ fr c Q s:=adv_of tabOk h hg ho
variable {c:Operand} {x y:Code} {b:Bool}
theorem cd (hc:evl s.slots c=.d (.bool b)) (hx:b=true→GF ⟨Tryd.prog,n,S0,O0,w0,m0,Bs,ds⟩ fr (.code x) Q s) (hy:b=false→GF ⟨Tryd.prog,n,S0,O0,w0,m0,Bs,ds⟩ fr (.code y) Q s):GF ⟨Tryd.prog,n,S0,O0,w0,m0,Bs,ds⟩ fr (.code (.cond c x y)) Q s:=gcd hc hx hy
variable {ops:Array Oper} {i t m:Nat} {l:List Nat} {sl:List (Nat×PV)} {mem:List (List PV)}
theorem el {xs:List D} {j:Int} {d:D} (h:ixs tab ops.toList n i sl=some (t,none,ob,xs,j,m)) (hd:xs[j.toNat]? = some d) (hg:GF ⟨Tryd.prog,n,S0,O0,w0,m0,Bs,ds⟩ fr (.ops ops l) Q ⟨(t,.d (.ptr d)) :: sl,mem⟩) (h0:0≤j:=by omega) (hn:d.cells.length=m:=by first | rfl | simp [D.cells]) (hm:0 < m:=by decide) (ho:Obl ob:=by repeat first | exact Obl.nil | refine Obl.same ?_ | refine Obl.imp (fun h=>by simp_all) ?_):GF ⟨Tryd.prog,n,S0,O0,w0,m0,Bs,ds⟩ fr (.ops ops (i :: l)) Q ⟨sl,mem⟩:=gI d tabOk h (fun _=>⟨h0,hd,hn⟩) hm ho hg
variable {g:Bool}
theorem elg {xs:List D} {j:Int} (d:D) (h:ixs tab ops.toList n i sl=some (t,some g,ob,xs,j,m)) (hd:g=true→0≤j∧xs[j.toNat]? = some d∧d.cells.length=m) (hg:GF ⟨Tryd.prog,n,S0,O0,w0,m0,Bs,ds⟩ fr (.ops ops l) Q ⟨(t,.when g (.d (.ptr d))) :: sl,mem⟩) (hm:0 < m:=by decide) (ho:Obl ob:=by repeat first | exact Obl.nil | refine Obl.same ?_ | refine Obl.imp (fun h=>by simp_all) ?_):GF ⟨Tryd.prog,n,S0,O0,w0,m0,Bs,ds⟩ fr (.ops ops (i :: l)) Q ⟨sl,mem⟩:=gI d tabOk h hd hm ho hg
variable {f:FuncId} {r:PV}
theorem cl {ds':List D} (h:cls ops.toList n i sl=some (t,none,ob,f,ds')) (hc:Pf Tryd.prog f ds' r) (hg:GF ⟨Tryd.prog,n,S0,O0,w0,m0,Bs,ds⟩ fr (.ops ops l) Q ⟨(t,r) :: sl,mem⟩) (ho:Obl ob:=by repeat first | exact Obl.nil | refine Obl.same ?_ | refine Obl.imp (fun h=>by simp_all) ?_):GF ⟨Tryd.prog,n,S0,O0,w0,m0,Bs,ds⟩ fr (.ops ops (i :: l)) Q ⟨sl,mem⟩:=gC h (fun _=>hc) ho hg
theorem clg {ds':List D} (h:cls ops.toList n i sl=some (t,some g,ob,f,ds')) (hc:g=true→Pf Tryd.prog f ds' r) (hg:GF ⟨Tryd.prog,n,S0,O0,w0,m0,Bs,ds⟩ fr (.ops ops l) Q ⟨(t,.when g r) :: sl,mem⟩) (ho:Obl ob:=by repeat first | exact Obl.nil | refine Obl.same ?_ | refine Obl.imp (fun h=>by simp_all) ?_):GF ⟨Tryd.prog,n,S0,O0,w0,m0,Bs,ds⟩ fr (.ops ops (i :: l)) Q ⟨sl,mem⟩:=gC h hc ho hg
variable {p:PV}
theorem qu {C:Prop} (h:qcs tab ops.toList n i sl=some (t,none,ob,C,p)) (hc:C) (hg:GF ⟨Tryd.prog,n,S0,O0,w0,m0,Bs,ds⟩ fr (.ops ops l) Q ⟨(t,p) :: sl,mem⟩) (ho:Obl ob:=by repeat first | exact Obl.nil | refine Obl.same ?_ | refine Obl.imp (fun h=>by simp_all) ?_):GF ⟨Tryd.prog,n,S0,O0,w0,m0,Bs,ds⟩ fr (.ops ops (i :: l)) Q ⟨sl,mem⟩:=gQ tabOk h (fun _=>hc) ho hg
variable {k:Nat}
theorem ap {u b:Nat} {xs ys:List D} (h:aps tab ops.toList n i sl=some (t,u,k,b,xs,ys)) (hg:GF ⟨Tryd.prog,n,S0,O0,w0,m0,Bs,ds⟩ fr (.ops ops l) Q ⟨(t,.osl k (xs++ys)) :: (u,.d (.sl xs)) :: sl,mem⟩) (hk0:0 < k:=by decide) (hne:ys ≠ []:=by simp) (hk:∀ y ∈ ys,y.cells.length=k:=by simp [D.cells]) (hl:xs.length + ys.length≤lim:=by simp only [lim,List.length_cons,List.length_nil,List.length_append,List.length_map];omega) (hB:(xs.length + ys.length) * b≤lim:=by simp only [lim,List.length_cons,List.length_nil,List.length_append,List.length_map];omega):GF ⟨Tryd.prog,n,S0,O0,w0,m0,Bs,ds⟩ fr (.ops ops (i :: l)) Q ⟨sl,mem⟩:=gA tabOk h hk0 hne hk hl hB hg
theorem bs {xs:List D} (h:bss tab ops.toList n i sl=some (t,k,xs)) (hg:GF ⟨Tryd.prog,n,S0,O0,w0,m0,Bs,ds⟩ fr (.ops ops l) Q ⟨(t,.osl k xs) :: sl,mem⟩) (hk0:0 < k:=by decide) (hk:∀ d ∈ xs,d.cells.length=k:=by simp [D.cells]):GF ⟨Tryd.prog,n,S0,O0,w0,m0,Bs,ds⟩ fr (.ops ops (i :: l)) Q ⟨sl,mem⟩:=gB tabOk h hk0 hk hg
theorem fz (isAgg:Bool) {n:Nat} {S0:Reg} {O0:Owns} {w0:World} {m0 Bs:List Nat} {ds:List Deferred} {fr:List Fr} {Q:Exit→GS→Prop} {c:Cf} {s s':GS} {k:Nat} {d:D} (h:frs isAgg s=some (k,d,s')) (hg:GF ⟨Tryd.prog,n,S0,O0,w0,m0,Bs,ds⟩ fr c Q s') (hk:m0.length≤k:=by first | (dsimp only [List.length_cons,List.length_nil];omega) | simp_all) (hrf:s'.mem.all (PV.refsBs k)=true:=by rfl) (hc:goes c=true:=by rfl):GF ⟨Tryd.prog,n,S0,O0,w0,m0,Bs,ds⟩ fr c Q s:=gFz isAgg h hk hrf hc hg
theorem en {K:Ctx} {rvs:List ResultVar} {e:Exit} {q:PV} (h:E.endK tab sl mem rvs e=some q) (hr:q=r) (hb:PV.refsB 0 q=true:=by rfl):GF K [] (.leave e) (Fin Tryd.prog rvs 0 (fun q m=>q=r∧m=[])) ⟨sl,mem⟩:=gEnd tabOk h hb hr
theorem mixed:Tryd.prog.follows .mixedOrders=true:=by kernel_rfl
variable {base:List (Nat×PV)}
theorem oo {id:Nat} {tt:List Nat} (hb:baseK ops.toList sl=some (tt,base):=by exact rfl) (hdep:((List.range ops.size).all fun i=>(depsOf ops i).all fun d=>Nat.blt d i)=true:=by kernel_rfl) (hc:CO ⟨Tryd.prog,n,S0,O0,w0,m0,Bs,ds⟩ fr ops base mem 0 [] Q):GF ⟨Tryd.prog,n,S0,O0,w0,m0,Bs,ds⟩ fr (.code (.region id ops true)) Q ⟨sl,mem⟩:=gOpen hb mixed hdep hc
variable {pre:List (Nat×PV)} {j:Nat} {es es':List (Nat×Nat×PV)}
theorem ov (hs:see ops.toList i es base=some pre:=by exact rfl) (hj:nth nums (i + 1)=some j:=by exact rfl) (h:∀ rest,E.step tab ops.toList n i ⟨pre++rest,mem⟩=some (ob,⟨(t,p) :: (pre++rest),mem⟩):=by exact fun _=>rfl) (hes:snocK es (i,t,p) some=some es':=by exact rfl) (hc:CO ⟨Tryd.prog,n,S0,O0,w0,m0,Bs,ds⟩ fr ops base mem j es' Q) (ho:Obl ob:=by repeat first | exact Obl.nil | refine Obl.same ?_ | refine Obl.imp (fun h=>by simp_all) ?_):CO ⟨Tryd.prog,n,S0,O0,w0,m0,Bs,ds⟩ fr ops base mem i es Q:=oV tabOk hs hj h hes hc ho
theorem oc {ds':List D} (hs:see ops.toList i es base=some pre:=by exact rfl) (hj:nth nums (i + 1)=some j:=by exact rfl) (h:∀ rest,cls ops.toList n i (pre++rest)=some (t,none,ob,f,ds'):=by exact fun _=>rfl) (hcl:Pf Tryd.prog f ds' r) (hes:snocK es (i,t,r) some=some es':=by exact rfl) (hc:CO ⟨Tryd.prog,n,S0,O0,w0,m0,Bs,ds⟩ fr ops base mem j es' Q) (ho:Obl ob:=by repeat first | exact Obl.nil | refine Obl.same ?_ | refine Obl.imp (fun h=>by simp_all) ?_):CO ⟨Tryd.prog,n,S0,O0,w0,m0,Bs,ds⟩ fr ops base mem i es Q:=oC (g:=none) hs hj h (fun _=>hcl) hes hc ho
theorem ocg {ds':List D} (hs:see ops.toList i es base=some pre:=by exact rfl) (hj:nth nums (i + 1)=some j:=by exact rfl) (h:∀ rest,cls ops.toList n i (pre++rest)=some (t,some g,ob,f,ds'):=by exact fun _=>rfl) (hcl:g=true→Pf Tryd.prog f ds' r) (hes:snocK es (i,t,.when g r) some=some es':=by exact rfl) (hc:CO ⟨Tryd.prog,n,S0,O0,w0,m0,Bs,ds⟩ fr ops base mem j es' Q) (ho:Obl ob:=by repeat first | exact Obl.nil | refine Obl.same ?_ | refine Obl.imp (fun h=>by simp_all) ?_):CO ⟨Tryd.prog,n,S0,O0,w0,m0,Bs,ds⟩ fr ops base mem i es Q:=oC (g:=some g) hs hj h hcl hes hc ho
theorem oi {xs:List D} {ix:Int} {d:D} (hs:see ops.toList i es base=some pre:=by exact rfl) (hj:nth nums (i + 1)=some j:=by exact rfl) (h:∀ rest,ixs tab ops.toList n i (pre++rest)=some (t,none,ob,xs,ix,m):=by exact fun _=>rfl) (hd:xs[ix.toNat]? = some d) (hes:snocK es (i,t,.d (.ptr d)) some=some es':=by exact rfl) (hc:CO ⟨Tryd.prog,n,S0,O0,w0,m0,Bs,ds⟩ fr ops base mem j es' Q) (h0:0≤ix:=by omega) (hn:d.cells.length=m:=by first | rfl | simp [D.cells]) (hm:0 < m:=by decide) (ho:Obl ob:=by repeat first | exact Obl.nil | refine Obl.same ?_ | refine Obl.imp (fun h=>by simp_all) ?_):CO ⟨Tryd.prog,n,S0,O0,w0,m0,Bs,ds⟩ fr ops base mem i es Q:=oI (g:=none) d tabOk hs hj h (fun _=>⟨h0,hd,hn⟩) hm hes hc ho
theorem oq {C:Prop} (hs:see ops.toList i es base=some pre:=by exact rfl) (hj:nth nums (i + 1)=some j:=by exact rfl) (h:∀ rest,qcs tab ops.toList n i (pre++rest)=some (t,none,ob,C,p):=by exact fun _=>rfl) (hcc:C) (hes:snocK es (i,t,p) some=some es':=by exact rfl) (hc:CO ⟨Tryd.prog,n,S0,O0,w0,m0,Bs,ds⟩ fr ops base mem j es' Q) (ho:Obl ob:=by repeat first | exact Obl.nil | refine Obl.same ?_ | refine Obl.imp (fun h=>by simp_all) ?_):CO ⟨Tryd.prog,n,S0,O0,w0,m0,Bs,ds⟩ fr ops base mem i es Q:=oQ (g:=none) tabOk hs hj h (fun _=>hcc) hes hc ho
theorem oe (hi:sizeIs ops.toList i=true:=by exact rfl) (hp:putK es base some=some sl:=by exact rfl) (hc:GF ⟨Tryd.prog,n,S0,O0,w0,m0,Bs,ds⟩ fr (.leave .normal) Q ⟨sl,mem⟩) (hn:nodupB (es.map (·.2.1))=true:=by rfl) (hb:base.all (fun x=>!(es.map (·.2.1)).contains x.1)=true:=by rfl) (hf:es.all (fun x=>Nat.blt x.1 ops.size)=true:=by rfl):CO ⟨Tryd.prog,n,S0,O0,w0,m0,Bs,ds⟩ fr ops base mem i es Q:=oEnd hi hp hc hn hb hf
theorem mu {b:Nat} {kt:TypeId} {mem':List (List PV)} {ks:List D} {vs:List PV} {k:D} {kb:D→Bool} (C:KC Tryd.prog kt kb) (h:mus tab ops.toList i sl=some (b,kt,k,p):=by exact rfl) (hm:nth mem b=some (mpc ks vs):=by exact rfl) (hmem:putMK mem b ks vs k p=some mem':=by exact rfl) (hg:GF ⟨Tryd.prog,n,S0,O0,w0,m0,Bs,ds⟩ fr (.ops ops l) Q ⟨sl,mem'⟩) (hl:vs.length=ks.length:=by rfl) (hks:ks.all kb=true:=by rfl) (hk:kb k=true:=by rfl) (hno:p.noown=true:=by rfl):GF ⟨Tryd.prog,n,S0,O0,w0,m0,Bs,ds⟩ fr (.ops ops (i :: l)) Q ⟨sl,mem⟩:=gMuC tabOk h hm C hl hks hk hno hmem hg
theorem lo {b:Nat} {ok:Bool} {kt et:TypeId} {k:D} {ks:List D} {vs:List PV} {zp:PV} {kb:D→Bool} (C:KC Tryd.prog kt kb) (h:lks tab ops.toList n i sl=some (t,ok,.mref b,kt,et,k):=by exact rfl) (hz:zvT tab et=some zp:=by exact rfl) (hm:nth mem b=some (mpc ks vs):=by exact rfl) (hr:lkK ok k zp ks vs=some r:=by exact rfl) (hg:GF ⟨Tryd.prog,n,S0,O0,w0,m0,Bs,ds⟩ fr (.ops ops l) Q ⟨(t,r) :: sl,mem⟩) (hl:vs.length=ks.length:=by rfl) (hks:ks.all kb=true:=by rfl) (hk:kb k=true:=by rfl) (hno:PV.noowns vs=true:=by rfl):GF ⟨Tryd.prog,n,S0,O0,w0,m0,Bs,ds⟩ fr (.ops ops (i :: l)) Q ⟨sl,mem⟩:=gLkC tabOk h hz hm C hl hks hk hno hr hg
theorem enm {K:Ctx} {rvs:List ResultVar} {mem':List (List PV)} {e:Exit} {q:PV} (h:E.endK tab sl mem rvs e=some q) (hr:q=r) (hm:MSub mem'.length mem mem') (hb:PV.refsB mem'.length q=true:=by rfl) (hn:k≤mem'.length:=by exact oR rfl):GF K [] (.leave e) (Fin Tryd.prog rvs k (fun q m=>q=r∧m=mem')) ⟨sl,mem⟩:=gEndM tabOk h hb hn hm ⟨hr,rfl⟩
theorem ct (hc:evl s.slots c=.d (.bool b)) (hx:GF ⟨Tryd.prog,n,S0,O0,w0,m0,Bs,ds⟩ fr (.code x) Q s) (hb:b=true:=by decide):GF ⟨Tryd.prog,n,S0,O0,w0,m0,Bs,ds⟩ fr (.code (.cond c x y)) Q s:=gct hc hb hx
theorem cf (hc:evl s.slots c=.d (.bool b)) (hy:GF ⟨Tryd.prog,n,S0,O0,w0,m0,Bs,ds⟩ fr (.code y) Q s) (hb:b=false:=by decide):GF ⟨Tryd.prog,n,S0,O0,w0,m0,Bs,ds⟩ fr (.code (.cond c x y)) Q s:=gcf hc hb hy
theorem msame:∀ {mem:List (List PV)},mem.all (PV.refsBs n)=true→MSub n mem mem
 | [],_=>.nil
 | c :: r,h=>by
  rw [List.all_cons,Bool.and_eq_true] at h
  refine .cons ?_ (msame h.2)
  have:∀ {cs:List PV},PV.refsBs n cs=true→CSub n cs cs:=by
   intro cs
   induction cs with
   | nil=>intro _;exact .nil
   | cons p r ih=>intro h;rw [PV.refsBs,Bool.and_eq_true] at h;exact .cons (.inl rfl) h.1 (ih h.2)
  exact this h.1
theorem fg (lo:Nat) {n:Nat} {S0:Reg} {O0:Owns} {w0:World} {m0 Bs:List Nat} {ds:List Deferred} {fr:List Fr} {Q:Exit→GS→Prop} {c:Cf} {s s':GS} {k:Nat} (h:fgS s=some (k,s')) (hg:GF ⟨Tryd.prog,n,S0,O0,w0,m0,Bs,ds⟩ fr c Q s') (hlo:Nat.ble lo k=true:=by rfl) (hk:m0.length≤k:=by first | (dsimp only [List.length_cons,List.length_nil];omega) | simp_all) (hrf:s'.mem.all (PV.refsBs k)=true:=by rfl) (hc:goes c=true:=by rfl):GF ⟨Tryd.prog,n,S0,O0,w0,m0,Bs,ds⟩ fr c Q s:=gFg h hk hrf hc hg
theorem sk (h:gsk ops.toList n i sl=some (t,g)) (hgf:g=false) (hg:GF ⟨Tryd.prog,n,S0,O0,w0,m0,Bs,ds⟩ fr (.ops ops l) Q ⟨(t,.when g (.d (.bool false))) :: sl,mem⟩):GF ⟨Tryd.prog,n,S0,O0,w0,m0,Bs,ds⟩ fr (.ops ops (i :: l)) Q ⟨sl,mem⟩:=gSk (.d (.bool false)) h hgf hg
theorem oig {xs:List D} {ix:Int} (d:D) (hs:see ops.toList i es base=some pre:=by exact rfl) (hj:nth nums (i + 1)=some j:=by exact rfl) (h:∀ rest,ixs tab ops.toList n i (pre++rest)=some (t,some g,ob,xs,ix,m):=by exact fun _=>rfl) (hd:g=true→0≤ix∧xs[ix.toNat]? = some d∧d.cells.length=m) (hes:snocK es (i,t,.when g (.d (.ptr d))) some=some es':=by exact rfl) (hc:CO ⟨Tryd.prog,n,S0,O0,w0,m0,Bs,ds⟩ fr ops base mem j es' Q) (hm:0 < m:=by decide) (ho:Obl ob:=by repeat first | exact Obl.nil | refine Obl.same ?_ | refine Obl.imp (fun h=>by simp_all) ?_):CO ⟨Tryd.prog,n,S0,O0,w0,m0,Bs,ds⟩ fr ops base mem i es Q:=oI (g:=some g) d tabOk hs hj h hd hm hes hc ho
theorem ixr {len:Nat} {ty e:TypeId} {td:TypeDesc} {ds':List D} {jx:Int} {d:D} (h:ixv ops.toList n i sl=some (t,ty,ds',jx)) (hu:Tryd.prog.underlying ty=some (.array len e)) (he:Tryd.prog.underlying e=some td) (hg:GF ⟨Tryd.prog,n,S0,O0,w0,m0,Bs,ds⟩ fr (.ops ops l) Q ⟨(t,.d d) :: sl,mem⟩) (hd:ds'[jx.toNat]? = some d:=by rfl) (h0:0≤jx:=by decide) (h1:jx < len:=by decide) (hz:(Tryd.prog.info? e).map (·.size)=some 1:=by kernel_rfl) (hl:leafT td=true:=by rfl):GF ⟨Tryd.prog,n,S0,O0,w0,m0,Bs,ds⟩ fr (.ops ops (i :: l)) Q ⟨sl,mem⟩:=gIx h hu hz he hl h0 h1 hd hg
theorem onl {xs:List D} (hs:see ops.toList i es base=some pre:=by exact rfl) (hj:nth nums (i + 1)=some j:=by exact rfl) (h:∀ rest,bss tab ops.toList n i (pre++rest)=some (t,k,xs):=by exact fun _=>rfl) (hes:snocK es (i,t,.osl k xs) some=some es':=by exact rfl) (hc:CO ⟨Tryd.prog,n,S0,O0,w0,m0,Bs,ds⟩ fr ops base mem j es' Q) (hk0:0 < k:=by decide) (hk:∀ d ∈ xs,d.cells.length=k:=by simp [D.cells]):CO ⟨Tryd.prog,n,S0,O0,w0,m0,Bs,ds⟩ fr ops base mem i es Q:=
 oStep hs hj hes hc fun rest _ hg=>gB tabOk (h rest) hk0 hk hg
theorem cs (sel:List Nat) {n:Nat} {S0:Reg} {O0:Owns} {w0:World} {m0 Bs:List Nat} {ds:List Deferred} {fr:List Fr} {Q:Exit→GS→Prop} {ops:Array Oper} {i:Nat} {l:List Nat} {sl:List (Nat×PV)} {mem:List (List PV)} {t:Nat} {f:FuncId} {args args0:List PV} {mem0 mem1 mem':List (List PV)} {r r':PV} (h:cms ops.toList n i sl=some (t,f,args)) (hc:Gm Tryd.prog f args0 mem0 r mem1) (hg:GF ⟨Tryd.prog,n,S0,O0,w0,m0,Bs,ds⟩ fr (.ops ops l) Q ⟨(t,r') :: sl,mem'⟩) (hargs:args=PV.rens (fun b=>sel.getD b 0) args0:=by rfl) (hnd:sel.Nodup:=by decide) (hsel:∀ b ∈ sel,b < mem.length:=by simp)
 (hmem:sel.map (fun b=>mem.getD b [])=mem0.map (PV.rens (fun b=>sel.getD b 0)):=by rfl) (hra:PV.refsBs sel.length args0=true:=by rfl) (hrm:mem0.all (PV.refsBs sel.length)=true:=by rfl) (hl:mem1.length=sel.length:=by rfl) (hr:r.ren (fun b=>sel.getD b 0)=r':=by rfl) (hm:setAll mem sel (mem1.map (PV.rens (fun b=>sel.getD b 0)))=mem':=by rfl):GF ⟨Tryd.prog,n,S0,O0,w0,m0,Bs,ds⟩ fr (.ops ops (i :: l)) Q ⟨sl,mem⟩:=gMs sel h hc hargs hnd hsel hmem hra hrm hl hr hm hg
theorem xs (sel:List Nat) {n:Nat} {S0:Reg} {O0:Owns} {w0:World} {m0 Bs:List Nat} {ds:List Deferred} {fr:List Fr} {Q:Exit→GS→Prop} {ops:Array Oper} {i:Nat} {l:List Nat} {sl:List (Nat×PV)} {mem:List (List PV)} {t:Nat} {f:FuncId} {args args0:List PV} {mem0 mem1 mem':List (List PV)} {r r':PV} (h:cms ops.toList n i sl=some (t,f,args)) (hc:Xm Tryd.prog f args0 mem0 (.inl r) mem1) (hg:GF ⟨Tryd.prog,n,S0,O0,w0,m0,Bs,ds⟩ fr (.ops ops l) Q ⟨(t,r') :: sl,mem'⟩) (hargs:args=PV.rens (fun b=>sel.getD b 0) args0:=by rfl) (hnd:sel.Nodup:=by decide) (hsel:∀ b ∈ sel,b < mem.length:=by simp)
 (hmem:sel.map (fun b=>mem.getD b [])=mem0.map (PV.rens (fun b=>sel.getD b 0)):=by rfl) (hra:PV.refsBs sel.length args0=true:=by rfl) (hrm:mem0.all (PV.refsBs sel.length)=true:=by rfl) (hl:mem1.length=sel.length:=by rfl) (hr:r.ren (fun b=>sel.getD b 0)=r':=by rfl) (hm:setAll mem sel (mem1.map (PV.rens (fun b=>sel.getD b 0)))=mem':=by rfl):GF ⟨Tryd.prog,n,S0,O0,w0,m0,Bs,ds⟩ fr (.ops ops (i :: l)) Q ⟨sl,mem⟩:=gXs sel h hc hargs hnd hsel hmem hra hrm hl hr hm hg
theorem ar (r:Nat) {K:Ctx} {fr:List Fr} {ops:Array Oper} {b:Bool} {y:Code} {Q:Exit→GS→Prop} {s:GS} (h:GF K fr (.code (.seq (.region r ops b) y)) Q s):GF K fr (.code (.seq (.region r ops b) y)) Q s:=h
end Go.Proofs.YtoonleefemkalaaDoor
