import Derived.Test.YtoonleefemkalaaDoorM1
import Derived.Test.YtoonleefemkalaaDoorM2
import Derived.Test.YtoonleefemkalaaDoorM3
import Derived.Test.YtoonleefemkalaaDoorM4
import Derived.Test.YtoonleefemkalaaDoorM5
import Derived.Test.YtoonleefemkalaaDoorM6
import Derived.Test.YtoonleefemkalaaDoorM7
import Derived.Test.YtoonleefemkalaaDoorM8
import Derived.Test.YtoonleefemkalaaDoorM9
import Derived.Test.YtoonleefemkalaaDoorM10
import Derived.Test.YtoonleefemkalaaDoorM11
import Derived.Test.YtoonleefemkalaaDoorM12
import Derived.Test.YtoonleefemkalaaDoorM13
import Derived.Test.YtoonleefemkalaaDoorM14
import Derived.Test.YtoonleefemkalaaDoorM15
import Derived.Test.YtoonleefemkalaaDoorProg
import Derived.KernelRfl
/- Contracts of functions. Conditions: none. -/
set_option linter.unusedSimpArgs false
set_option linter.unusedVariables false
set_option maxRecDepth 20000
namespace Go.Proofs.YtoonleefemkalaaDoor
open Go
theorem sz5 : (Tryd.prog.info? 5).map (·.size) = some 1 := by kernel_rfl
theorem inf9 : (Tryd.prog.info? 9).map (fun i => (i.zero, i.size, i.bytes)) = some (some (.string ⟨#[]⟩), 1, 16) := by kernel_rfl
theorem sz9 : (Tryd.prog.info? 9).map (·.size) = some 1 := by kernel_rfl
theorem inf28 : (Tryd.prog.info? 28).map (fun i => (i.zero, i.size, i.bytes)) = some (some (.agg #[.int .i64 0, .int .i64 0, .string ⟨#[]⟩]), 3, 32) := by kernel_rfl
theorem inf86 : (Tryd.prog.info? 86).map (fun i => (i.zero, i.size, i.bytes)) = some (some (.pointer none), 1, 8) := by kernel_rfl
theorem sz86 : (Tryd.prog.info? 86).map (·.size) = some 1 := by kernel_rfl
theorem u1 : Tryd.prog.underlying 1 = some (TypeDesc.func #[] #[] false) := Tryd.underlying1
theorem u2 : Tryd.prog.underlying 2 = some (TypeDesc.int IntKind.i64) := Tryd.underlying2
theorem u3 : Tryd.prog.underlying 3 = some (TypeDesc.int IntKind.i64) := Tryd.underlying3
theorem u4 : Tryd.prog.underlying 4 = some TypeDesc.bool := Tryd.underlying4
theorem u5 : Tryd.prog.underlying 5 = some (TypeDesc.int IntKind.u8) := Tryd.underlying5
theorem u9 : Tryd.prog.underlying 9 = some TypeDesc.string := Tryd.underlying9
theorem u23 : Tryd.prog.underlying 23 = some (TypeDesc.struct #[{ name := "Kind", type := 3, offset := 0, embedded := false, tag := "", pkgPath := "", byteOffset := 0 }, { name := "Number", type := 3, offset := 1, embedded := false, tag := "", pkgPath := "", byteOffset := 8 }, { name := "Body", type := 9, offset := 2, embedded := false, tag := "", pkgPath := "", byteOffset := 16 }]) := Tryd.underlying23
theorem u25 : Tryd.prog.underlying 25 = some (TypeDesc.int IntKind.i64) := Tryd.underlying25
theorem u28 : Tryd.prog.underlying 28 = some (TypeDesc.struct #[{ name := "Kind", type := 3, offset := 0, embedded := false, tag := "", pkgPath := "", byteOffset := 0 }, { name := "Number", type := 3, offset := 1, embedded := false, tag := "", pkgPath := "", byteOffset := 8 }, { name := "Body", type := 9, offset := 2, embedded := false, tag := "", pkgPath := "", byteOffset := 16 }]) := Tryd.underlying28
theorem u35 : Tryd.prog.underlying 35 = some (TypeDesc.slice 9) := Tryd.underlying35
theorem u42 : Tryd.prog.underlying 42 = some (TypeDesc.slice 28) := Tryd.underlying42
theorem u75 : Tryd.prog.underlying 75 = some (TypeDesc.array 12 5) := Tryd.underlying75
theorem u76 : Tryd.prog.underlying 76 = some (TypeDesc.slice 5) := Tryd.underlying76
theorem u80 : Tryd.prog.underlying 80 = some (TypeDesc.array 4 5) := Tryd.underlying80
theorem u99 : Tryd.prog.underlying 99 = some (TypeDesc.slice 86) := Tryd.underlying99
theorem u121 : Tryd.prog.underlying 121 = some (TypeDesc.pointer 25) := Tryd.underlying121
open E
structure Hd (A : Prop) : Prop where
 o : A
variable {A B : Prop}
theorem Z0 (h : A) (g : Hd A → B := by intro zz; refine gq (by exact rfl) (fun _ ht => Q_rowIndex rfl rfl (by decide) (by decide) u99 sz86 ht) ?_; exact zz.o) : B := g ⟨h⟩
theorem Z1 (h : A) (g : Hd A → B := by intro zz; refine oqw (hs := rfl) (hj := rfl) (h := fun _ => rfl) (hq := fun rest _ _ => Q_arrAddr rfl rfl u75 sz5 (by decide) (by decide)) (hc := ?_); exact zz.o) : B := g ⟨h⟩
theorem Z2 (h : A) (g : Hd A → B := by intro zz; refine st (by exact rfl) ?_; exact zz.o) : B := g ⟨h⟩
theorem Z3 (h : A) (g : Hd A → B := by intro zz; refine aw (hc := ?_); exact zz.o) : B := g ⟨h⟩
theorem Z4 (h : A) (g : Hd A → B := by intro zz; refine enm (mem' := [flat []]) (by exact rfl) rfl ?_; exact zz.o) : B := g ⟨h⟩
theorem Z5 (h : A) (g : Hd A → B := by intro zz; refine ov (hc := ?_); exact zz.o) : B := g ⟨h⟩
theorem Z6 (h : A) (g : Hd A → B := by intro zz; refine oo (hc := ?_); exact zz.o) : B := g ⟨h⟩
theorem Z7 (h : A) (g : Hd A → B := by intro zz; refine oe (hc := ?_); exact zz.o) : B := g ⟨h⟩
theorem Z8 (h : A) (g : Hd A → B := by intro zz; refine rw_seq ?_; exact zz.o) : B := g ⟨h⟩
theorem Y0 (g : A := by exact en (by exact rfl) rfl) : A := g
end Go.Proofs.YtoonleefemkalaaDoor
namespace Go.Proofs.YtoonleefemkalaaDoor
open Go Go.Proofs.YtoonleefemkalaaDoor.E
def tab : List (Nat × TI) := [(2, ⟨true, 1, [.int .i64], (.int .i64)⟩),
 (3, ⟨true, 1, [.int .i64], (.int .i64)⟩),
 (4, ⟨true, 1, [.bool], .bool⟩),
 (5, ⟨true, 1, [.int .u8], (.int .u8)⟩),
 (6, ⟨true, 1, [.int .u8], (.int .u8)⟩),
 (7, ⟨false, 4, [.int .i64, .int .i64, .bool, .int .u8], (.struct [(0, 1, true), (1, 1, true), (2, 1, true), (3, 1, true)])⟩),
 (8, ⟨false, 4, [.int .i64, .int .i64, .bool, .int .u8], (.struct [(0, 1, true), (1, 1, true), (2, 1, true), (3, 1, true)])⟩),
 (9, ⟨true, 1, [.str], .str⟩),
 (10, ⟨true, 1, [.str], .str⟩),
 (11, ⟨true, 1, [.str], .str⟩),
 (12, ⟨true, 1, [.int .u64], (.int .u64)⟩),
 (13, ⟨false, 2, [.str, .int .u64], (.struct [(0, 1, true), (1, 1, true)])⟩),
 (14, ⟨false, 2, [.str, .int .u64], (.struct [(0, 1, true), (1, 1, true)])⟩),
 (15, ⟨true, 1, [.ptr], .ptr⟩),
 (16, ⟨true, 1, [.ptr], .ptr⟩),
 (17, ⟨true, 1, [.ptr], .ptr⟩),
 (18, ⟨false, 1, [.ptr], (.struct [(0, 1, true)])⟩),
 (19, ⟨false, 1, [.ptr], (.struct [(0, 1, true)])⟩),
 (20, ⟨true, 1, [.ifc], .other⟩),
 (21, ⟨true, 1, [.int .i32], (.int .i32)⟩),
 (22, ⟨false, 3, [.int .i64, .int .i64, .str], (.struct [(0, 1, true), (1, 1, true), (2, 1, true)])⟩),
 (23, ⟨false, 3, [.int .i64, .int .i64, .str], (.struct [(0, 1, true), (1, 1, true), (2, 1, true)])⟩),
 (25, ⟨true, 1, [.int .i64], (.int .i64)⟩),
 (28, ⟨false, 3, [.int .i64, .int .i64, .str], (.struct [(0, 1, true), (1, 1, true), (2, 1, true)])⟩),
 (35, ⟨true, 1, [.sl], (.slice 9 1 16 [.str])⟩),
 (36, ⟨true, 1, [.sl], (.slice 23 3 32 [.int .i64, .int .i64, .str])⟩),
 (37, ⟨false, 10, [.int .i64, .int .i64, .int .i64, .sl, .sl, .int .i64, .sl, .sl, .sl, .sl], (.struct [(0, 1, true), (1, 1, true), (2, 1, true), (3, 1, true), (4, 1, true), (5, 1, true), (6, 1, true), (7, 1, true), (8, 1, true), (9, 1, true)])⟩),
 (38, ⟨false, 10, [.int .i64, .int .i64, .int .i64, .sl, .sl, .int .i64, .sl, .sl, .sl, .sl], (.struct [(0, 1, true), (1, 1, true), (2, 1, true), (3, 1, true), (4, 1, true), (5, 1, true), (6, 1, true), (7, 1, true), (8, 1, true), (9, 1, true)])⟩),
 (39, ⟨false, 4, [.int .i64, .bool, .int .i64, .int .i64], (.struct [(0, 1, true), (1, 1, true), (2, 1, true), (3, 1, true)])⟩),
 (40, ⟨false, 4, [.int .i64, .bool, .int .i64, .int .i64], (.struct [(0, 1, true), (1, 1, true), (2, 1, true), (3, 1, true)])⟩),
 (42, ⟨true, 1, [.sl], (.slice 28 3 32 [.int .i64, .int .i64, .str])⟩),
 (43, ⟨false, 10, [.int .i64, .int .i64, .int .i64, .sl, .sl, .int .i64, .sl, .sl, .sl, .sl], (.struct [(0, 1, true), (1, 1, true), (2, 1, true), (3, 1, true), (4, 1, true), (5, 1, true), (6, 1, true), (7, 1, true), (8, 1, true), (9, 1, true)])⟩),
 (44, ⟨false, 10, [.int .i64, .int .i64, .int .i64, .sl, .sl, .int .i64, .sl, .sl, .sl, .sl], (.struct [(0, 1, true), (1, 1, true), (2, 1, true), (3, 1, true), (4, 1, true), (5, 1, true), (6, 1, true), (7, 1, true), (8, 1, true), (9, 1, true)])⟩),
 (54, ⟨false, 4, [.int .i64, .bool, .int .i64, .int .i64], (.struct [(0, 1, true), (1, 1, true), (2, 1, true), (3, 1, true)])⟩),
 (55, ⟨true, 1, [.sl], (.slice 54 4 32 [.int .i64, .bool, .int .i64, .int .i64])⟩),
 (57, ⟨true, 1, [.sl], (.slice 40 4 32 [.int .i64, .bool, .int .i64, .int .i64])⟩),
 (75, ⟨false, 12, [.int .u8, .int .u8, .int .u8, .int .u8, .int .u8, .int .u8, .int .u8, .int .u8, .int .u8, .int .u8, .int .u8, .int .u8], (.array 12 1)⟩),
 (76, ⟨true, 1, [.sl], (.slice 5 1 1 [.int .u8])⟩),
 (80, ⟨false, 4, [.int .u8, .int .u8, .int .u8, .int .u8], (.array 4 1)⟩),
 (86, ⟨true, 1, [.ptr], .ptr⟩),
 (90, ⟨true, 1, [.ptr], .ptr⟩),
 (91, ⟨false, 6, [.fn, .fn, .fn, .fn, .fn, .fn], (.array 6 1)⟩),
 (94, ⟨false, 2, [.int .i64, .int .i64], (.array 2 1)⟩),
 (96, ⟨true, 1, [.int .u64], (.int .u64)⟩),
 (99, ⟨true, 1, [.sl], (.slice 86 1 8 [.ptr])⟩),
 (104, ⟨true, 1, [.ptr], .ptr⟩),
 (116, ⟨true, 1, [.ifc], .other⟩),
 (117, ⟨true, 1, [.ifc], .other⟩),
 (121, ⟨true, 1, [.ptr], .ptr⟩),
 (126, ⟨true, 1, [.int .u64], (.int .u64)⟩),
 (130, ⟨true, 1, [.ifc], .other⟩),
 (131, ⟨true, 1, [.ifc], .other⟩),
 (133, ⟨true, 1, [.int .u8], (.int .u8)⟩),
 (137, ⟨false, 1, [.ptr], (.struct [(0, 1, true)])⟩),
 (138, ⟨false, 1, [.ptr], (.struct [(0, 1, true)])⟩),
 (139, ⟨true, 1, [.ptr], .ptr⟩),
 (143, ⟨true, 1, [.ifc], .other⟩),
 (146, ⟨true, 1, [.ifc], .other⟩),
 (148, ⟨true, 1, [.ifc], .other⟩),
 (149, ⟨true, 1, [.sl], (.slice 117 1 16 [.ifc])⟩),
 (153, ⟨false, 4, [.ptr, .ptr, .ptr, .str], (.struct [(0, 1, true), (1, 1, true), (2, 1, true), (3, 1, true)])⟩),
 (154, ⟨false, 4, [.ptr, .ptr, .ptr, .str], (.struct [(0, 1, true), (1, 1, true), (2, 1, true), (3, 1, true)])⟩),
 (155, ⟨false, 0, [], (.array 0 1)⟩),
 (156, ⟨false, 0, [], (.struct [(0, 0, false)])⟩),
 (157, ⟨false, 0, [], (.struct [(0, 0, false)])⟩),
 (160, ⟨true, 1, [.int .u32], (.int .u32)⟩),
 (161, ⟨true, 1, [.int .u8], (.int .u8)⟩),
 (163, ⟨true, 1, [.ptr], .ptr⟩),
 (164, ⟨true, 1, [.int .i32], (.int .i32)⟩),
 (165, ⟨true, 1, [.int .i32], (.int .i32)⟩),
 (166, ⟨false, 11, [.int .u64, .int .u64, .int .u32, .int .u8, .int .u8, .int .u8, .int .u8, .fn, .ptr, .int .i32, .int .i32], (.struct [(0, 1, true), (1, 1, true), (2, 1, true), (3, 1, true), (4, 1, true), (5, 1, true), (6, 1, true), (7, 1, true), (8, 1, true), (9, 1, true), (10, 1, true)])⟩),
 (167, ⟨false, 11, [.int .u64, .int .u64, .int .u32, .int .u8, .int .u8, .int .u8, .int .u8, .fn, .ptr, .int .i32, .int .i32], (.struct [(0, 1, true), (1, 1, true), (2, 1, true), (3, 1, true), (4, 1, true), (5, 1, true), (6, 1, true), (7, 1, true), (8, 1, true), (9, 1, true), (10, 1, true)])⟩),
 (170, ⟨false, 2, [.str, .int .u8], (.struct [(0, 1, true), (1, 1, true)])⟩),
 (171, ⟨false, 2, [.str, .int .u8], (.struct [(0, 1, true), (1, 1, true)])⟩),
 (172, ⟨true, 1, [.ptr], .ptr⟩),
 (174, ⟨true, 1, [.int .u16], (.int .u16)⟩),
 (175, ⟨false, 5, [.int .i32, .int .u16, .int .u16, .int .u32, .int .u32], (.struct [(0, 1, true), (1, 1, true), (2, 1, true), (3, 1, true), (4, 1, true)])⟩),
 (176, ⟨false, 5, [.int .i32, .int .u16, .int .u16, .int .u32, .int .u32], (.struct [(0, 1, true), (1, 1, true), (2, 1, true), (3, 1, true), (4, 1, true)])⟩),
 (177, ⟨true, 1, [.sl], (.slice 180 4 16 [.int .i32, .int .i32, .int .i32, .int .i32])⟩),
 (178, ⟨true, 1, [.int .i32], (.int .i32)⟩),
 (179, ⟨false, 4, [.int .i32, .int .i32, .int .i32, .int .i32], (.struct [(0, 1, true), (1, 1, true), (2, 1, true), (3, 1, true)])⟩),
 (180, ⟨false, 4, [.int .i32, .int .i32, .int .i32, .int .i32], (.struct [(0, 1, true), (1, 1, true), (2, 1, true), (3, 1, true)])⟩),
 (181, ⟨true, 1, [.ptr], .ptr⟩)]
theorem tabOk : tabB Tryd.prog tab = true := by kernel_rfl
variable {n : Nat} {S0 : Reg} {O0 : Owns} {w0 : World} {m0 Bs : List Nat} {ds : List Deferred} {fr : List Fr} {Q : Exit → GS → Prop} {s : GS} {ob : List (Bool × Bool)}
theorem st {fr' : List Fr} {c c' : Cf} {s' : GS} (h : adv tab n fr c s = some (ob, fr', c', s')) (hg : GF ⟨Tryd.prog, n, S0, O0, w0, m0, Bs, ds⟩ fr' c' Q s') (ho : Obl ob := by repeat first | exact Obl.nil | refine Obl.same ?_ | refine Obl.imp (fun h => by simp_all) ?_) : GF ⟨Tryd.prog, n, S0, O0, w0, m0, Bs, ds⟩ fr c Q s := adv_of tabOk h hg ho
variable {c : Operand} {x y : Code} {b : Bool}
theorem cd (hc : evl s.slots c = .d (.bool b)) (hx : b = true → GF ⟨Tryd.prog, n, S0, O0, w0, m0, Bs, ds⟩ fr (.code x) Q s) (hy : b = false → GF ⟨Tryd.prog, n, S0, O0, w0, m0, Bs, ds⟩ fr (.code y) Q s) : GF ⟨Tryd.prog, n, S0, O0, w0, m0, Bs, ds⟩ fr (.code (.cond c x y)) Q s := gcd hc hx hy
variable {ops : Array Oper} {i t : Nat} {l : List Nat} {sl : List (Nat × PV)} {mem : List (List PV)}
theorem el {m : Nat} {xs : List D} {j : Int} {d : D} (h : ixs tab ops.toList n i sl = some (t, none, ob, xs, j, m)) (hd : xs[j.toNat]? = some d) (hg : GF ⟨Tryd.prog, n, S0, O0, w0, m0, Bs, ds⟩ fr (.ops ops l) Q ⟨(t, .d (.ptr d)) :: sl, mem⟩) (h0 : 0 ≤ j := by omega) (hn : d.cells.length = m := by first | rfl | simp [D.cells]) (hm : 0 < m := by decide) (ho : Obl ob := by repeat first | exact Obl.nil | refine Obl.same ?_ | refine Obl.imp (fun h => by simp_all) ?_) : GF ⟨Tryd.prog, n, S0, O0, w0, m0, Bs, ds⟩ fr (.ops ops (i :: l)) Q ⟨sl, mem⟩ := gI d tabOk h (fun _ => ⟨h0, hd, hn⟩) hm ho hg
variable {g : Bool}
theorem elg {m : Nat} {xs : List D} {j : Int} (d : D) (h : ixs tab ops.toList n i sl = some (t, some g, ob, xs, j, m)) (hd : g = true → 0 ≤ j ∧ xs[j.toNat]? = some d ∧ d.cells.length = m) (hg : GF ⟨Tryd.prog, n, S0, O0, w0, m0, Bs, ds⟩ fr (.ops ops l) Q ⟨(t, .when g (.d (.ptr d))) :: sl, mem⟩) (hm : 0 < m := by decide) (ho : Obl ob := by repeat first | exact Obl.nil | refine Obl.same ?_ | refine Obl.imp (fun h => by simp_all) ?_) : GF ⟨Tryd.prog, n, S0, O0, w0, m0, Bs, ds⟩ fr (.ops ops (i :: l)) Q ⟨sl, mem⟩ := gI d tabOk h hd hm ho hg
variable {f : FuncId} {r : PV}
theorem cl {ds' : List D} (h : cls ops.toList n i sl = some (t, none, ob, f, ds')) (hc : Pf Tryd.prog f ds' r) (hg : GF ⟨Tryd.prog, n, S0, O0, w0, m0, Bs, ds⟩ fr (.ops ops l) Q ⟨(t, r) :: sl, mem⟩) (ho : Obl ob := by repeat first | exact Obl.nil | refine Obl.same ?_ | refine Obl.imp (fun h => by simp_all) ?_) : GF ⟨Tryd.prog, n, S0, O0, w0, m0, Bs, ds⟩ fr (.ops ops (i :: l)) Q ⟨sl, mem⟩ := gC h (fun _ => hc) ho hg
theorem clg {ds' : List D} (h : cls ops.toList n i sl = some (t, some g, ob, f, ds')) (hc : g = true → Pf Tryd.prog f ds' r) (hg : GF ⟨Tryd.prog, n, S0, O0, w0, m0, Bs, ds⟩ fr (.ops ops l) Q ⟨(t, .when g r) :: sl, mem⟩) (ho : Obl ob := by repeat first | exact Obl.nil | refine Obl.same ?_ | refine Obl.imp (fun h => by simp_all) ?_) : GF ⟨Tryd.prog, n, S0, O0, w0, m0, Bs, ds⟩ fr (.ops ops (i :: l)) Q ⟨sl, mem⟩ := gC h hc ho hg
variable {p : PV}
theorem qu {C : Prop} (h : qcs tab ops.toList n i sl = some (t, none, ob, C, p)) (hc : C) (hg : GF ⟨Tryd.prog, n, S0, O0, w0, m0, Bs, ds⟩ fr (.ops ops l) Q ⟨(t, p) :: sl, mem⟩) (ho : Obl ob := by repeat first | exact Obl.nil | refine Obl.same ?_ | refine Obl.imp (fun h => by simp_all) ?_) : GF ⟨Tryd.prog, n, S0, O0, w0, m0, Bs, ds⟩ fr (.ops ops (i :: l)) Q ⟨sl, mem⟩ := gQ tabOk h (fun _ => hc) ho hg
variable {k : Nat}
theorem ap {u b : Nat} {xs ys : List D} (h : aps tab ops.toList n i sl = some (t, u, k, b, xs, ys)) (hg : GF ⟨Tryd.prog, n, S0, O0, w0, m0, Bs, ds⟩ fr (.ops ops l) Q ⟨(t, .osl k (xs ++ ys)) :: (u, .d (.sl xs)) :: sl, mem⟩) (hk0 : 0 < k := by decide) (hne : ys ≠ [] := by simp) (hk : ∀ y ∈ ys, y.cells.length = k := by simp [D.cells]) (hl : xs.length + ys.length ≤ lim := by simp only [lim, List.length_cons, List.length_nil, List.length_append, List.length_map]; omega) (hB : (xs.length + ys.length) * b ≤ lim := by simp only [lim, List.length_cons, List.length_nil, List.length_append, List.length_map]; omega) : GF ⟨Tryd.prog, n, S0, O0, w0, m0, Bs, ds⟩ fr (.ops ops (i :: l)) Q ⟨sl, mem⟩ := gA tabOk h hk0 hne hk hl hB hg
theorem bs {xs : List D} (h : bss tab ops.toList n i sl = some (t, k, xs)) (hg : GF ⟨Tryd.prog, n, S0, O0, w0, m0, Bs, ds⟩ fr (.ops ops l) Q ⟨(t, .osl k xs) :: sl, mem⟩) (hk0 : 0 < k := by decide) (hk : ∀ d ∈ xs, d.cells.length = k := by simp [D.cells]) : GF ⟨Tryd.prog, n, S0, O0, w0, m0, Bs, ds⟩ fr (.ops ops (i :: l)) Q ⟨sl, mem⟩ := gB tabOk h hk0 hk hg
theorem fz (isAgg : Bool) {n : Nat} {S0 : Reg} {O0 : Owns} {w0 : World} {m0 Bs : List Nat} {ds : List Deferred} {fr : List Fr} {Q : Exit → GS → Prop} {c : Cf} {s s' : GS} {k : Nat} {d : D} (h : frs isAgg s = some (k, d, s')) (hg : GF ⟨Tryd.prog, n, S0, O0, w0, m0, Bs, ds⟩ fr c Q s') (hk : m0.length ≤ k := by first | (dsimp only [List.length_cons, List.length_nil]; omega) | simp_all) (hrf : s'.mem.all (PV.refsBs k) = true := by rfl) (hc : goes c = true := by rfl) : GF ⟨Tryd.prog, n, S0, O0, w0, m0, Bs, ds⟩ fr c Q s := gFz isAgg h hk hrf hc hg
theorem en {K : Ctx} {rvs : List ResultVar} {e : Exit} {q : PV} (h : E.endK tab sl mem rvs e = some q) (hr : q = r) (hb : PV.refsB 0 q = true := by rfl) : GF K [] (.leave e) (Fin Tryd.prog rvs 0 (fun q m => q = r ∧ m = [])) ⟨sl, mem⟩ := gEnd tabOk h hb hr
theorem mixed : Tryd.prog.follows .mixedOrders = true := by kernel_rfl
variable {base : List (Nat × PV)}
theorem oo {id : Nat} {tt : List Nat} (hb : baseK ops.toList sl = some (tt, base) := by exact rfl) (hdep : ((List.range ops.size).all fun i => (depsOf ops i).all fun d => Nat.blt d i) = true := by kernel_rfl) (hc : CO ⟨Tryd.prog, n, S0, O0, w0, m0, Bs, ds⟩ fr ops base mem 0 [] Q) : GF ⟨Tryd.prog, n, S0, O0, w0, m0, Bs, ds⟩ fr (.code (.region id ops true)) Q ⟨sl, mem⟩ := gOpen hb mixed hdep hc
variable {pre : List (Nat × PV)} {j : Nat} {es : List (Nat × Nat × PV)}
theorem ov {es' : List (Nat × Nat × PV)} (hs : see ops.toList i es base = some pre := by exact rfl) (hj : nth nums (i + 1) = some j := by exact rfl) (h : ∀ rest, E.step tab ops.toList n i ⟨pre ++ rest, mem⟩ = some (ob, ⟨(t, p) :: (pre ++ rest), mem⟩) := by exact fun _ => rfl) (hes : snocK es (i, t, p) some = some es' := by exact rfl) (hc : CO ⟨Tryd.prog, n, S0, O0, w0, m0, Bs, ds⟩ fr ops base mem j es' Q) (ho : Obl ob := by repeat first | exact Obl.nil | refine Obl.same ?_ | refine Obl.imp (fun h => by simp_all) ?_) : CO ⟨Tryd.prog, n, S0, O0, w0, m0, Bs, ds⟩ fr ops base mem i es Q := oV tabOk hs hj h hes hc ho
theorem ocg {es' : List (Nat × Nat × PV)} {ds' : List D} (hs : see ops.toList i es base = some pre := by exact rfl) (hj : nth nums (i + 1) = some j := by exact rfl) (h : ∀ rest, cls ops.toList n i (pre ++ rest) = some (t, some g, ob, f, ds') := by exact fun _ => rfl) (hcl : g = true → Pf Tryd.prog f ds' r) (hes : snocK es (i, t, .when g r) some = some es' := by exact rfl) (hc : CO ⟨Tryd.prog, n, S0, O0, w0, m0, Bs, ds⟩ fr ops base mem j es' Q) (ho : Obl ob := by repeat first | exact Obl.nil | refine Obl.same ?_ | refine Obl.imp (fun h => by simp_all) ?_) : CO ⟨Tryd.prog, n, S0, O0, w0, m0, Bs, ds⟩ fr ops base mem i es Q := oC (g := some g) hs hj h hcl hes hc ho
theorem oq {es' : List (Nat × Nat × PV)} {C : Prop} (hs : see ops.toList i es base = some pre := by exact rfl) (hj : nth nums (i + 1) = some j := by exact rfl) (h : ∀ rest, qcs tab ops.toList n i (pre ++ rest) = some (t, none, ob, C, p) := by exact fun _ => rfl) (hcc : C) (hes : snocK es (i, t, p) some = some es' := by exact rfl) (hc : CO ⟨Tryd.prog, n, S0, O0, w0, m0, Bs, ds⟩ fr ops base mem j es' Q) (ho : Obl ob := by repeat first | exact Obl.nil | refine Obl.same ?_ | refine Obl.imp (fun h => by simp_all) ?_) : CO ⟨Tryd.prog, n, S0, O0, w0, m0, Bs, ds⟩ fr ops base mem i es Q := oQ (g := none) tabOk hs hj h (fun _ => hcc) hes hc ho
theorem oe (hi : sizeIs ops.toList i = true := by exact rfl) (hp : putK es base some = some sl := by exact rfl) (hc : GF ⟨Tryd.prog, n, S0, O0, w0, m0, Bs, ds⟩ fr (.leave .normal) Q ⟨sl, mem⟩) (hn : nodupB (es.map (·.2.1)) = true := by rfl) (hb : base.all (fun x => !(es.map (·.2.1)).contains x.1) = true := by rfl) (hf : es.all (fun x => Nat.blt x.1 ops.size) = true := by rfl) : CO ⟨Tryd.prog, n, S0, O0, w0, m0, Bs, ds⟩ fr ops base mem i es Q := oEnd hi hp hc hn hb hf
theorem mu {b : Nat} {kt : TypeId} {mem' : List (List PV)} {ks : List D} {vs : List PV} {k : D} {kb : D → Bool} (C : KC Tryd.prog kt kb) (h : mus tab ops.toList i sl = some (b, kt, k, p) := by exact rfl) (hm : nth mem b = some (mpc ks vs) := by exact rfl) (hmem : putMK mem b ks vs k p = some mem' := by exact rfl) (hg : GF ⟨Tryd.prog, n, S0, O0, w0, m0, Bs, ds⟩ fr (.ops ops l) Q ⟨sl, mem'⟩) (hl : vs.length = ks.length := by rfl) (hks : ks.all kb = true := by rfl) (hk : kb k = true := by rfl) (hno : p.noown = true := by rfl) : GF ⟨Tryd.prog, n, S0, O0, w0, m0, Bs, ds⟩ fr (.ops ops (i :: l)) Q ⟨sl, mem⟩ := gMuC tabOk h hm C hl hks hk hno hmem hg
theorem lo {b : Nat} {ok : Bool} {kt et : TypeId} {k : D} {ks : List D} {vs : List PV} {zp : PV} {kb : D → Bool} (C : KC Tryd.prog kt kb) (h : lks tab ops.toList n i sl = some (t, ok, .mref b, kt, et, k) := by exact rfl) (hz : zvT tab et = some zp := by exact rfl) (hm : nth mem b = some (mpc ks vs) := by exact rfl) (hr : lkK ok k zp ks vs = some r := by exact rfl) (hg : GF ⟨Tryd.prog, n, S0, O0, w0, m0, Bs, ds⟩ fr (.ops ops l) Q ⟨(t, r) :: sl, mem⟩) (hl : vs.length = ks.length := by rfl) (hks : ks.all kb = true := by rfl) (hk : kb k = true := by rfl) (hno : PV.noowns vs = true := by rfl) : GF ⟨Tryd.prog, n, S0, O0, w0, m0, Bs, ds⟩ fr (.ops ops (i :: l)) Q ⟨sl, mem⟩ := gLkC tabOk h hz hm C hl hks hk hno hr hg
theorem enm {K : Ctx} {rvs : List ResultVar} {mem' : List (List PV)} {e : Exit} {q : PV} (h : E.endK tab sl mem rvs e = some q) (hr : q = r) (hm : MSub mem'.length mem mem') (hb : PV.refsB mem'.length q = true := by rfl) (hn : k ≤ mem'.length := by exact of_decide_eq_true rfl) : GF K [] (.leave e) (Fin Tryd.prog rvs k (fun q m => q = r ∧ m = mem')) ⟨sl, mem⟩ := gEndM tabOk h hb hn hm ⟨hr, rfl⟩
theorem ct (hc : evl s.slots c = .d (.bool b)) (hx : GF ⟨Tryd.prog, n, S0, O0, w0, m0, Bs, ds⟩ fr (.code x) Q s) (hb : b = true := by decide) : GF ⟨Tryd.prog, n, S0, O0, w0, m0, Bs, ds⟩ fr (.code (.cond c x y)) Q s := gct hc hb hx
theorem cf (hc : evl s.slots c = .d (.bool b)) (hy : GF ⟨Tryd.prog, n, S0, O0, w0, m0, Bs, ds⟩ fr (.code y) Q s) (hb : b = false := by decide) : GF ⟨Tryd.prog, n, S0, O0, w0, m0, Bs, ds⟩ fr (.code (.cond c x y)) Q s := gcf hc hb hy
theorem msame : ∀ {mem : List (List PV)}, mem.all (PV.refsBs n) = true → MSub n mem mem
 | [], _ => .nil
 | c :: r, h => by
  rw [List.all_cons, Bool.and_eq_true] at h
  refine .cons ?_ (msame h.2)
  have : ∀ {cs : List PV}, PV.refsBs n cs = true → CSub n cs cs := by
   intro cs
   induction cs with
   | nil => intro _; exact .nil
   | cons p r ih => intro h; rw [PV.refsBs, Bool.and_eq_true] at h; exact .cons (.inl rfl) h.1 (ih h.2)
  exact this h.1
theorem fg (lo : Nat) {n : Nat} {S0 : Reg} {O0 : Owns} {w0 : World} {m0 Bs : List Nat} {ds : List Deferred} {fr : List Fr} {Q : Exit → GS → Prop} {c : Cf} {s s' : GS} {k : Nat} (h : fgS s = some (k, s')) (hg : GF ⟨Tryd.prog, n, S0, O0, w0, m0, Bs, ds⟩ fr c Q s') (hlo : Nat.ble lo k = true := by rfl) (hk : m0.length ≤ k := by first | (dsimp only [List.length_cons, List.length_nil]; omega) | simp_all) (hrf : s'.mem.all (PV.refsBs k) = true := by rfl) (hc : goes c = true := by rfl) : GF ⟨Tryd.prog, n, S0, O0, w0, m0, Bs, ds⟩ fr c Q s := gFg h hk hrf hc hg
theorem ixr {len : Nat} {ty e : TypeId} {td : TypeDesc} {ds' : List D} {jx : Int} {d : D} (h : ixv ops.toList n i sl = some (t, ty, ds', jx)) (hu : Tryd.prog.underlying ty = some (.array len e)) (he : Tryd.prog.underlying e = some td) (hg : GF ⟨Tryd.prog, n, S0, O0, w0, m0, Bs, ds⟩ fr (.ops ops l) Q ⟨(t, .d d) :: sl, mem⟩) (hd : ds'[jx.toNat]? = some d := by rfl) (h0 : 0 ≤ jx := by decide) (h1 : jx < len := by decide) (hz : (Tryd.prog.info? e).map (·.size) = some 1 := by kernel_rfl) (hl : leafT td = true := by rfl) : GF ⟨Tryd.prog, n, S0, O0, w0, m0, Bs, ds⟩ fr (.ops ops (i :: l)) Q ⟨sl, mem⟩ := gIx h hu hz he hl h0 h1 hd hg
theorem cs (sel : List Nat) {n : Nat} {S0 : Reg} {O0 : Owns} {w0 : World} {m0 Bs : List Nat} {ds : List Deferred} {fr : List Fr} {Q : Exit → GS → Prop} {ops : Array Oper} {i : Nat} {l : List Nat} {sl : List (Nat × PV)} {mem : List (List PV)} {t : Nat} {f : FuncId} {args args0 : List PV} {mem0 mem1 mem' : List (List PV)} {r r' : PV} (h : cms ops.toList n i sl = some (t, f, args)) (hc : Gm Tryd.prog f args0 mem0 r mem1) (hg : GF ⟨Tryd.prog, n, S0, O0, w0, m0, Bs, ds⟩ fr (.ops ops l) Q ⟨(t, r') :: sl, mem'⟩) (hargs : args = PV.rens (fun b => sel.getD b 0) args0 := by rfl) (hnd : sel.Nodup := by decide) (hsel : ∀ b ∈ sel, b < mem.length := by simp)
 (hmem : sel.map (fun b => mem.getD b []) = mem0.map (PV.rens (fun b => sel.getD b 0)) := by rfl) (hra : PV.refsBs sel.length args0 = true := by rfl) (hrm : mem0.all (PV.refsBs sel.length) = true := by rfl) (hl : mem1.length = sel.length := by rfl) (hr : r.ren (fun b => sel.getD b 0) = r' := by rfl) (hm : setAll mem sel (mem1.map (PV.rens (fun b => sel.getD b 0))) = mem' := by rfl) : GF ⟨Tryd.prog, n, S0, O0, w0, m0, Bs, ds⟩ fr (.ops ops (i :: l)) Q ⟨sl, mem⟩ := gMs sel h hc hargs hnd hsel hmem hra hrm hl hr hm hg
theorem xs (sel : List Nat) {n : Nat} {S0 : Reg} {O0 : Owns} {w0 : World} {m0 Bs : List Nat} {ds : List Deferred} {fr : List Fr} {Q : Exit → GS → Prop} {ops : Array Oper} {i : Nat} {l : List Nat} {sl : List (Nat × PV)} {mem : List (List PV)} {t : Nat} {f : FuncId} {args args0 : List PV} {mem0 mem1 mem' : List (List PV)} {r r' : PV} (h : cms ops.toList n i sl = some (t, f, args)) (hc : Xm Tryd.prog f args0 mem0 (.inl r) mem1) (hg : GF ⟨Tryd.prog, n, S0, O0, w0, m0, Bs, ds⟩ fr (.ops ops l) Q ⟨(t, r') :: sl, mem'⟩) (hargs : args = PV.rens (fun b => sel.getD b 0) args0 := by rfl) (hnd : sel.Nodup := by decide) (hsel : ∀ b ∈ sel, b < mem.length := by simp)
 (hmem : sel.map (fun b => mem.getD b []) = mem0.map (PV.rens (fun b => sel.getD b 0)) := by rfl) (hra : PV.refsBs sel.length args0 = true := by rfl) (hrm : mem0.all (PV.refsBs sel.length) = true := by rfl) (hl : mem1.length = sel.length := by rfl) (hr : r.ren (fun b => sel.getD b 0) = r' := by rfl) (hm : setAll mem sel (mem1.map (PV.rens (fun b => sel.getD b 0))) = mem' := by rfl) : GF ⟨Tryd.prog, n, S0, O0, w0, m0, Bs, ds⟩ fr (.ops ops (i :: l)) Q ⟨sl, mem⟩ := gXs sel h hc hargs hnd hsel hmem hra hrm hl hr hm hg
theorem ar (r : Nat) {K : Ctx} {fr : List Fr} {ops : Array Oper} {b : Bool} {y : Code} {Q : Exit → GS → Prop} {s : GS} (h : GF K fr (.code (.seq (.region r ops b) y)) Q s) : GF K fr (.code (.seq (.region r ops b) y)) Q s := h
end Go.Proofs.YtoonleefemkalaaDoor
namespace Go.Proofs.YtoonleefemkalaaDoor
open Go Go.Proofs.YtoonleefemkalaaDoor.E
variable {sl : List (Nat × PV)} {mem : List (List PV)} {t n : Nat}
theorem yCopy {K : Ctx} {b off : Nat} {x y : Operand} {ty sT e rt : TypeId} {pos : String} {af : Array Edge} {g : Option (Nat × Bool)} {cs : List PV} {ys : List D}
 (hx : (GS.mk sl mem).ev x = .rsl b off n 1) (hm : mem[b]? = some cs) (hpl : plainB cs = true) (hy : ((GS.mk sl mem).ev y).list? = some ys) (hk : ∀ y ∈ ys, y.cells.length = 1) (hne : ys ≠ []) (hn : ys.length ≤ n) (hfit : off + ys.length ≤ cs.length) (hu : K.P.underlying ty = some (.slice e)) (hz : (K.P.info? e).map (·.size) = some 1) (ht : t < K.n) :
 Yld K ⟨some t, .call ⟨.builtin .copy, #[x, y], #[ty, sT]⟩, rt, pos, af, g⟩ ⟨sl, mem⟩ ⟨(t, .d (.int .i64 (ys.length : Int))) :: sl, mem.set b (splice cs off (flat ys))⟩ := Y_copyRow hx hm hpl hy hk hne hn hfit hu hz ht
variable {S0 : Reg} {O0 : Owns} {w0 : World} {m0 Bs : List Nat} {ds : List Deferred} {fr : List Fr} {Q : Exit → GS → Prop} {ops : Array Oper} {i : Nat} {ob : List (Bool × Bool)} {o : Oper} {p : PV}
theorem gq {l : List Nat} {g : Option Bool} {sl' : List (Nat × PV)} (h : gview ops.toList n i sl = some (t, g, ob, o, sl')) (hq : isT g → t < n → Qy ⟨Tryd.prog, n, S0, O0, w0, m0, Bs, ds⟩ o ⟨sl', mem⟩ t p) (hg : GF ⟨Tryd.prog, n, S0, O0, w0, m0, Bs, ds⟩ fr (.ops ops l) Q ⟨(t, whn g p) :: sl, mem⟩) (ho : Obl ob := by repeat first | exact Obl.nil | refine Obl.same ?_ | refine Obl.imp (fun h => by simp_all) ?_) : GF ⟨Tryd.prog, n, S0, O0, w0, m0, Bs, ds⟩ fr (.ops ops (i :: l)) Q ⟨sl, mem⟩ := gqy h hq hg ho
theorem zz {l : List Nat} {C : Prop} (h : qzs ops.toList n i sl = some (t, none, ob, C, p)) (hg : GF ⟨Tryd.prog, n, S0, O0, w0, m0, Bs, ds⟩ fr (.ops ops l) Q ⟨(t, p) :: sl, mem⟩) (hc : C := by decide) (ho : Obl ob := by repeat first | exact Obl.nil | refine Obl.same ?_ | refine Obl.imp (fun h => by simp_all) ?_) : GF ⟨Tryd.prog, n, S0, O0, w0, m0, Bs, ds⟩ fr (.ops ops (i :: l)) Q ⟨sl, mem⟩ := gQz h (fun _ => hc) ho hg
variable {base pre : List (Nat × PV)} {j : Nat} {es es' : List (Nat × Nat × PV)}
theorem oqw {g : Option Bool} {slx : List (Nat × PV) → List (Nat × PV)} (hs : see ops.toList i es base = some pre := by exact rfl) (hj : nth nums (i + 1) = some j := by exact rfl) (h : ∀ rest, gview ops.toList n i (pre ++ rest) = some (t, g, ob, o, slx rest) := by exact fun _ => rfl) (hq : ∀ rest, isT g → t < n → Qy ⟨Tryd.prog, n, S0, O0, w0, m0, Bs, ds⟩ o ⟨slx rest, mem⟩ t p) (hes : snocK es (i, t, whn g p) some = some es' := by exact rfl) (hc : CO ⟨Tryd.prog, n, S0, O0, w0, m0, Bs, ds⟩ fr ops base mem j es' Q) (ho : Obl ob := by repeat first | exact Obl.nil | refine Obl.same ?_ | refine Obl.imp (fun h => by simp_all) ?_) : CO ⟨Tryd.prog, n, S0, O0, w0, m0, Bs, ds⟩ fr ops base mem i es Q := oqy hs hj h hq hes hc ho
theorem ow (ws : List Nat) (ms : List (List (List PV))) {n : Nat} {S0 : Reg} {O0 : Owns} {w0 : World} {m0 Bs : List Nat} {ds : List Deferred} {fr : List Fr} {Q : Exit → GS → Prop} {id : Nat} {ops : Array Oper} {sl base : List (Nat × PV)} {mem : List (List PV)} {tt : List Nat} (hb : baseK ops.toList sl = some (tt, base) := by exact rfl) (hm0 : ms.head? = some mem := by rfl) (hdep : ((List.range ops.size).all fun i => (depsOf ops i).all fun d => Nat.blt d i) = true := by kernel_rfl) (hc : COw ⟨Tryd.prog, n, S0, O0, w0, m0, Bs, ds⟩ fr ops base ws ms 0 [] Q) : GF ⟨Tryd.prog, n, S0, O0, w0, m0, Bs, ds⟩ fr (.code (.region id ops true)) Q ⟨sl, mem⟩ := gOpenW ws ms hb mixed hm0 hdep hc
variable {ws : List Nat} {ms : List (List (List PV))}
theorem aw (hs : see ops.toList i es base = some pre := by exact rfl) (hj : nth nums (i + 1) = some j := by exact rfl) (h : ∀ rest X, E.step tab ops.toList n i ⟨pre ++ rest, X⟩ = some (ob, ⟨(t, p) :: (pre ++ rest), X⟩) := by exact fun _ _ => rfl) (hes : snocK es (i, t, p) some = some es' := by exact rfl) (hc : COw ⟨Tryd.prog, n, S0, O0, w0, m0, Bs, ds⟩ fr ops base ws ms j es' Q) (hi : memN i ws = false := by rfl) (ho : Obl ob := by repeat first | exact Obl.nil | refine Obl.same ?_ | refine Obl.imp (fun h => by simp_all) ?_) : COw ⟨Tryd.prog, n, S0, O0, w0, m0, Bs, ds⟩ fr ops base ws ms i es Q := oAnyW hs hj hes hi hc fun rest X _ hg => toO (gv tabOk (h rest X) (ofO hg) ho)
theorem qw (k : Nat) {n : Nat} {S0 : Reg} {O0 : Owns} {w0 : World} {m0 Bs : List Nat} {ds : List Deferred} {fr : List Fr} {Q : Exit → GS → Prop} {ops : Array Oper} {base pre : List (Nat × PV)} {ws : List Nat} {ms : List (List (List PV))} {i j t : Nat} {es es' : List (Nat × Nat × PV)} {mem : List (List PV)} {g : Option Bool} {ob : List (Bool × Bool)} {o : Oper} {p : PV} {slx : List (Nat × PV) → List (Nat × PV)} (hmm : ms[k]? = some mem := by rfl) (hs : see ops.toList i es base = some pre := by exact rfl) (hj : nth nums (i + 1) = some j := by exact rfl) (h : ∀ rest, gview ops.toList n i (pre ++ rest) = some (t, g, ob, o, slx rest) := by exact fun _ => rfl) (hq : ∀ rest, isT g → t < n → Qy ⟨Tryd.prog, n, S0, O0, w0, m0, Bs, ds⟩ o ⟨slx rest, mem⟩ t p) (hes : snocK es (i, t, whn g p) some = some es' := by exact rfl) (hc : COw ⟨Tryd.prog, n, S0, O0, w0, m0, Bs, ds⟩ fr ops base ws ms j es' Q) (hi : memN i ws = false := by rfl) (hch : chained ops ws = true := by rfl) (hk : k ≤ ws.length := by decide) (hb : behindB ops ws k i = true := by rfl) (ha : aheadB ops ws k i = true := by rfl) (ho : Obl ob := by repeat first | exact Obl.nil | refine Obl.same ?_ | refine Obl.imp (fun h => by simp_all) ?_) : COw ⟨Tryd.prog, n, S0, O0, w0, m0, Bs, ds⟩ fr ops base ws ms i es Q :=
 oAtW k hs hj hes hi hch hk hmm hb ha hc fun rest _ hg => gqy (h rest) (hq rest) hg ho
theorem iw (hs : see ops.toList i es base = some pre := by exact rfl) (hj : nth nums (i + 1) = some j := by exact rfl) (h : ∀ rest, ∀ X ∈ ms, E.step tab ops.toList n i ⟨pre ++ rest, X⟩ = some (ob, ⟨(t, p) :: (pre ++ rest), X⟩)) (hes : snocK es (i, t, p) some = some es' := by exact rfl) (hc : COw ⟨Tryd.prog, n, S0, O0, w0, m0, Bs, ds⟩ fr ops base ws ms j es' Q) (hi : memN i ws = false := by rfl) (hl : Nat.blt ws.length ms.length = true := by rfl) (ho : Obl ob := by repeat first | exact Obl.nil | refine Obl.same ?_ | refine Obl.imp (fun h => by simp_all) ?_) : COw ⟨Tryd.prog, n, S0, O0, w0, m0, Bs, ds⟩ fr ops base ws ms i es Q := oInW hs hj hes hi hl hc fun rest X hX _ hg => toO (gv tabOk (h rest X hX) (ofO hg) ho)
theorem qiw {g : Option Bool} {slx : List (Nat × PV) → List (Nat × PV)} (hs : see ops.toList i es base = some pre := by exact rfl) (hj : nth nums (i + 1) = some j := by exact rfl) (h : ∀ rest, gview ops.toList n i (pre ++ rest) = some (t, g, ob, o, slx rest) := by exact fun _ => rfl) (hq : ∀ rest, ∀ X ∈ ms, isT g → t < n → Qy ⟨Tryd.prog, n, S0, O0, w0, m0, Bs, ds⟩ o ⟨slx rest, X⟩ t p) (hes : snocK es (i, t, whn g p) some = some es' := by exact rfl) (hc : COw ⟨Tryd.prog, n, S0, O0, w0, m0, Bs, ds⟩ fr ops base ws ms j es' Q) (hi : memN i ws = false := by rfl) (hl : Nat.blt ws.length ms.length = true := by rfl) (ho : Obl ob := by repeat first | exact Obl.nil | refine Obl.same ?_ | refine Obl.imp (fun h => by simp_all) ?_) : COw ⟨Tryd.prog, n, S0, O0, w0, m0, Bs, ds⟩ fr ops base ws ms i es Q := oInW hs hj hes hi hl hc fun rest X hX _ hg => gqy (h rest) (hq rest X hX) hg ho
theorem bw {C : Prop} (hs : see ops.toList i es base = some pre := by exact rfl) (hj : nth nums (i + 1) = some j := by exact rfl) (h : ∀ rest, qcs tab ops.toList n i (pre ++ rest) = some (t, none, ob, C, p) := by exact fun _ => rfl) (hcc : C) (hes : snocK es (i, t, p) some = some es' := by exact rfl) (hc : COw ⟨Tryd.prog, n, S0, O0, w0, m0, Bs, ds⟩ fr ops base ws ms j es' Q) (hi : memN i ws = false := by rfl) (ho : Obl ob := by repeat first | exact Obl.nil | refine Obl.same ?_ | refine Obl.imp (fun h => by simp_all) ?_) : COw ⟨Tryd.prog, n, S0, O0, w0, m0, Bs, ds⟩ fr ops base ws ms i es Q := oAnyW hs hj hes hi hc fun rest X _ hg => gQ tabOk (h rest) (fun _ => hcc) ho hg
theorem cw {f : FuncId} {ds' : List D} (hs : see ops.toList i es base = some pre := by exact rfl) (hj : nth nums (i + 1) = some j := by exact rfl) (h : ∀ rest, cls ops.toList n i (pre ++ rest) = some (t, none, ob, f, ds') := by exact fun _ => rfl) (hcl : Pf Tryd.prog f ds' p) (hes : snocK es (i, t, p) some = some es' := by exact rfl) (hc : COw ⟨Tryd.prog, n, S0, O0, w0, m0, Bs, ds⟩ fr ops base ws ms j es' Q) (hi : memN i ws = false := by rfl) (ho : Obl ob := by repeat first | exact Obl.nil | refine Obl.same ?_ | refine Obl.imp (fun h => by simp_all) ?_) : COw ⟨Tryd.prog, n, S0, O0, w0, m0, Bs, ds⟩ fr ops base ws ms i es Q := oAnyW hs hj hes hi hc fun rest X _ hg => gC (h rest) (fun _ => hcl) ho hg
theorem pw (k : Nat) {n : Nat} {S0 : Reg} {O0 : Owns} {w0 : World} {m0 Bs : List Nat} {ds : List Deferred} {fr : List Fr} {Q : Exit → GS → Prop} {ops : Array Oper} {base pre : List (Nat × PV)} {ws : List Nat} {ms : List (List (List PV))} {i j t : Nat} {es es' : List (Nat × Nat × PV)} {mem mem' : List (List PV)} {p : PV} {o : Oper} (hm1 : ms[k]? = some mem := by rfl) (hm2 : ms[k + 1]? = some mem' := by rfl) (hs : see ops.toList i es base = some pre := by exact rfl) (hj : nth nums (i + 1) = some j := by exact rfl) (hop : ops[i]? = some o := by exact rfl) (hg0 : o.guard = none := by exact rfl) {memx : List (List PV)} (hy : ∀ rest, Yld ⟨Tryd.prog, n, S0, O0, w0, m0, Bs, ds⟩ o ⟨pre ++ rest, mem⟩ ⟨(t, p) :: (pre ++ rest), memx⟩) (hmx : memx = mem' := by rfl) (hes : snocK es (i, t, p) some = some es' := by exact rfl) (hc : COw ⟨Tryd.prog, n, S0, O0, w0, m0, Bs, ds⟩ fr ops base ws ms j es' Q) (hw : ws[k]? = some i := by rfl) (hch : chained ops ws = true := by rfl) (hnd : nodupB ws = true := by rfl) : COw ⟨Tryd.prog, n, S0, O0, w0, m0, Bs, ds⟩ fr ops base ws ms i es Q :=
 oPutW k hs hj hes hw hch hnd hm1 hm2 hc fun rest _ hg => gyl hop hg0 (hmx ▸ hy rest) hg
theorem mw (k : Nat) {n : Nat} {S0 : Reg} {O0 : Owns} {w0 : World} {m0 Bs : List Nat} {ds : List Deferred} {fr : List Fr} {Q : Exit → GS → Prop} {ops : Array Oper} {base pre : List (Nat × PV)} {ws : List Nat} {ms : List (List (List PV))} {i j t : Nat} {es es' : List (Nat × Nat × PV)} {mem mem' : List (List PV)} {ob : List (Bool × Bool)} {p : PV} (hm1 : ms[k]? = some mem := by rfl) (hm2 : ms[k + 1]? = some mem' := by rfl) (hs : see ops.toList i es base = some pre := by exact rfl) (hj : nth nums (i + 1) = some j := by exact rfl) (h : ∀ rest, E.step tab ops.toList n i ⟨pre ++ rest, mem⟩ = some (ob, ⟨(t, p) :: (pre ++ rest), mem'⟩) := by exact fun _ => rfl) (hes : snocK es (i, t, p) some = some es' := by exact rfl) (hc : COw ⟨Tryd.prog, n, S0, O0, w0, m0, Bs, ds⟩ fr ops base ws ms j es' Q) (hw : ws[k]? = some i := by rfl) (hch : chained ops ws = true := by rfl) (hnd : nodupB ws = true := by rfl) (ho : Obl ob := by repeat first | exact Obl.nil | refine Obl.same ?_ | refine Obl.imp (fun h => by simp_all) ?_) : COw ⟨Tryd.prog, n, S0, O0, w0, m0, Bs, ds⟩ fr ops base ws ms i es Q :=
 oPutW k hs hj hes hw hch hnd hm1 hm2 hc fun rest _ hg => toO (gv tabOk (h rest) (ofO hg) ho)
theorem sw (k : Nat) {n : Nat} {S0 : Reg} {O0 : Owns} {w0 : World} {m0 Bs : List Nat} {ds : List Deferred} {fr : List Fr} {Q : Exit → GS → Prop} {ops : Array Oper} {base pre : List (Nat × PV)} {ws : List Nat} {ms : List (List (List PV))} {i j : Nat} {es : List (Nat × Nat × PV)} {mem mem' : List (List PV)} {ob : List (Bool × Bool)} (hm1 : ms[k]? = some mem := by rfl) (hm2 : ms[k + 1]? = some mem' := by rfl) (hs : see ops.toList i es base = some pre := by exact rfl) (hj : nth nums (i + 1) = some j := by exact rfl) (h : ∀ rest, E.step tab ops.toList n i ⟨pre ++ rest, mem⟩ = some (ob, ⟨pre ++ rest, mem'⟩) := by exact fun _ => rfl) (hc : COw ⟨Tryd.prog, n, S0, O0, w0, m0, Bs, ds⟩ fr ops base ws ms j es Q) (hw : ws[k]? = some i := by rfl) (hch : chained ops ws = true := by rfl) (hnd : nodupB ws = true := by rfl) (ho : Obl ob := by repeat first | exact Obl.nil | refine Obl.same ?_ | refine Obl.imp (fun h => by simp_all) ?_) : COw ⟨Tryd.prog, n, S0, O0, w0, m0, Bs, ds⟩ fr ops base ws ms i es Q :=
 oActW k hs hj hw hch hnd hm1 hm2 hc fun rest _ hg => toO (gv tabOk (h rest) (ofO hg) ho)
theorem ew (hi : sizeIs ops.toList i = true := by exact rfl) (hp : putK es base some = some sl := by exact rfl) (hm : ms[ws.length]? = some mem := by rfl) (hc : GF ⟨Tryd.prog, n, S0, O0, w0, m0, Bs, ds⟩ fr (.leave .normal) Q ⟨sl, mem⟩) (hS : ws.all (fun w => Nat.blt w ops.size) = true := by rfl) (hn : nodupB (es.map (·.2.1)) = true := by rfl) (hb : base.all (fun x => !(es.map (·.2.1)).contains x.1) = true := by rfl) (hf : es.all (fun x => Nat.blt x.1 ops.size) = true := by rfl) : COw ⟨Tryd.prog, n, S0, O0, w0, m0, Bs, ds⟩ fr ops base ws ms i es Q := oEndW hi hp hS hm hc hn hb hf
end Go.Proofs.YtoonleefemkalaaDoor
namespace Go.Proofs.YtoonleefemkalaaDoor
open Go Go.Proofs.YtoonleefemkalaaDoor.E
structure Pk where
 kd : Int
 nu : Int
 bo : ByteArray
def Pk.d (p : Pk) : D := .agg [.int .i64 p.kd, .int .i64 p.nu, .str p.bo]
def Pk.right (p : Pk) : Bool := !(decide (p.nu < 0) || decide (p.nu > 1000000000)) && (cond (p.kd == 1) (decide ((p.bo.size : Int) ≤ 200)) (p.kd == 2 && decide (p.bo = ByteArray.empty)))
theorem c33 (p : Pk) : Pf Tryd.prog 33 [p.d] (.d (.bool p.right)) := by
 unfold Pk.d Pk.right
 refine pfb Tryd.func33 Tryd.ntmps33 Tryd.results33 (fun S0 O0 w0 m0 hm0 => ?_)
 repeat' first | refine fz true (s := ⟨_, [_]⟩) (by exact rfl) ?_ | refine st (by exact rfl) ?_ | fail
 refine cd (by exact rfl) (fun hb => ?_) (fun hb => ?_)
 · repeat' first | refine st (by exact rfl) ?_ | fail
   exact en (by exact rfl) (by simp only [hb]; rfl)
 · repeat' first | refine st (by exact rfl) ?_ | fail
   refine cd (by exact rfl) (fun hb2 => ?_) (fun hb2 => ?_)
   · repeat' first | refine st (by exact rfl) ?_ | fail
     exact en (by exact rfl) (by rw [hb]; simp only [hb2]; rfl)
   · repeat' first | refine st (by exact rfl) ?_ | fail
     exact en (by exact rfl) (by rw [hb]; simp only [hb2]; rfl)
def be4 (n : Int) : List Int := [n / 16777216 % 256, n / 65536 % 256, n / 256 % 256, n % 256]
theorem u8_wrap (n : Int) : IntKind.u8.wrap n = n % 256 := by
 simp [IntKind.wrap, IntKind.signed, IntKind.bits]
theorem c34 (n : Int) : Pf Tryd.prog 34 [.int .i64 n] (.osl 1 ((be4 n).map fun v => .int .u8 v)) := by
 refine pfb Tryd.func34 Tryd.ntmps34 Tryd.results34 (fun S0 O0 w0 m0 hm0 => ?_)
 repeat' first | refine zz (by exact rfl) ?_ | refine bs (by exact rfl) ?_ | refine st (by exact rfl) ?_ | fail
 refine gEndO (by rfl) (by rfl) ?_
 rw [show (2 : Int) ^ min (Int.toNat 24) IntKind.i64.bits = 16777216 by decide, show (2 : Int) ^ min (Int.toNat 16) IntKind.i64.bits = 65536 by decide, show (2 : Int) ^ min (Int.toNat 8) IntKind.i64.bits = 256 by decide,
  Int.fdiv_eq_ediv_of_nonneg _ (by decide), Int.fdiv_eq_ediv_of_nonneg _ (by decide), Int.fdiv_eq_ediv_of_nonneg _ (by decide)]
 simp only [u8_wrap]
 rfl
theorem wrap_small {n : Int} (h0 : 0 ≤ n) (h1 : n ≤ 1000000000000) : IntKind.i64.wrap n = n := wrap_i64 (by omega) (by omega)
def nb4 (a b c d : Int) : Int := ((a * 256 + b) * 256 + c) * 256 + d
def byt (s : ByteArray) (i : Nat) : Int := ((s[i]!).toNat : Int)
theorem byt_lt (s : ByteArray) (i : Nat) : 0 ≤ byt s i ∧ byt s i < 256 := ⟨Int.natCast_nonneg _, by have := (s[i]!).toNat_lt; unfold byt; omega⟩
theorem or_byte {x y : Int} (h0 : 0 ≤ x) (h1 : x ≤ 1000000000) (h2 : 0 ≤ y) (h3 : y < 256) : orI (x * 256) y = x * 256 + y := by
 obtain ⟨m, rfl⟩ := Int.eq_ofNat_of_zero_le h0
 obtain ⟨k, rfl⟩ := Int.eq_ofNat_of_zero_le h2
 have hk : k < 2 ^ 8 := by omega
 have e : (BitVec.ofInt 64 ((m : Int) * 256) ||| BitVec.ofInt 64 (k : Int)).toNat = m * 256 + k := by
  have e1 : BitVec.ofInt 64 ((m : Int) * 256) = BitVec.ofNat 64 (m * 256) := by
   rw [show (m : Int) * 256 = ((m * 256 : Nat) : Int) by omega, BitVec.ofInt_natCast]
  rw [e1, BitVec.ofInt_natCast, BitVec.toNat_or, BitVec.toNat_ofNat, BitVec.toNat_ofNat, Nat.mod_eq_of_lt (by omega), Nat.mod_eq_of_lt (by omega)]
  have := Nat.shiftLeft_add_eq_or_of_lt hk m
  rw [Nat.shiftLeft_eq] at this
  exact this.symm
 show IntKind.i64.wrap ((BitVec.ofInt 64 ((m : Int) * 256) ||| BitVec.ofInt 64 (k : Int)).toNat : Int) = _
 rw [e, wrap_small (by omega) (by omega)]; omega
theorem c36 (a b c d : Int) (ha : 0 ≤ a ∧ a < 256) (hb : 0 ≤ b ∧ b < 256) (hc : 0 ≤ c ∧ c < 256) (hd : 0 ≤ d ∧ d < 256) : Pf Tryd.prog 36 [.agg [.int .u8 a, .int .u8 b, .int .u8 c, .int .u8 d]] (.d (.int .i64 (nb4 a b c d))) := by
 refine pfb Tryd.func36 Tryd.ntmps36 Tryd.results36 (fun S0 O0 w0 m0 hm0 => ?_)
 repeat' first | refine fz true (s := ⟨_, [_]⟩) (by exact rfl) ?_ | refine st (by exact rfl) ?_ | refine gRn 5 ?_ | refine ct (by exact rfl) ?_ (by decide) | refine cf (by exact rfl) ?_ (by decide) | refine ixr (by exact rfl) u80 u5 ?_ | refine zz (by exact rfl) ?_ | fail
 refine en (by exact rfl) ?_
 show PV.d (D.int .i64 (orI (IntKind.i64.wrap (orI (IntKind.i64.wrap (orI (IntKind.i64.wrap (orI 0 (IntKind.i64.wrap a) * 256)) (IntKind.i64.wrap b) * 256)) (IntKind.i64.wrap c) * 256)) (IntKind.i64.wrap d))) = _
 rw [wrap_small (n := a) (by omega) (by omega), wrap_small (n := b) (by omega) (by omega), wrap_small (n := c) (by omega) (by omega), wrap_small (n := d) (by omega) (by omega)]
 have e1 := or_byte (x := 0) (y := a) (by omega) (by omega) ha.1 ha.2
 have e2 := or_byte (x := a) (y := b) (by omega) (by omega) hb.1 hb.2
 have e3 := or_byte (x := a * 256 + b) (y := c) (by omega) (by omega) hc.1 hc.2
 have e4 := or_byte (x := (a * 256 + b) * 256 + c) (y := d) (by omega) (by omega) hd.1 hd.2
 rw [Int.zero_mul, Int.zero_add] at e1
 rw [e1, wrap_small (n := a * 256) (by omega) (by omega), e2, wrap_small (n := (a * 256 + b) * 256) (by omega) (by omega), e3, wrap_small (n := ((a * 256 + b) * 256 + c) * 256) (by omega) (by omega), e4]
 rfl
end Go.Proofs.YtoonleefemkalaaDoor
namespace Go.Proofs.YtoonleefemkalaaDoor
open Go Go.Proofs.YtoonleefemkalaaDoor.E
def enB (p : Pk) : ByteArray := strOfNums ([114, 100, p.kd % 256] ++ be4 p.nu ++ be4 p.bo.size ++ [58]) ++ p.bo
def enC (p : Pk) : ByteArray := if p.right = true then enB p else ByteArray.empty
def enE (p : Pk) : Int := if p.right = true then 0 else 330
def u8s (l : List Int) : List PV := l.map fun v => .d (.int .u8 v)
theorem right_size {p : Pk} (h : p.right = true) : p.bo.size ≤ 200 := by
 unfold Pk.right at h
 rw [Bool.and_eq_true] at h
 have h2 := h.2
 cases hk : (p.kd == 1) with
 | true => rw [hk] at h2; simp at h2; omega
 | false =>
  rw [hk] at h2
  simp only [cond_false, Bool.and_eq_true, decide_eq_true_eq] at h2
  rw [h2.2]; decide
theorem c10 (p : Pk) : Pf Tryd.prog 10 [p.d] (.tup [.d (.str (enC p)), .d (.int .i64 (enE p))]) := by
 have q33 := c33 p
 have q34 := c34 p.nu
 have q34' := c34 (p.bo.size : Int)
 unfold Pk.d at q33 ⊢
 unfold enC enE
 refine pfb Tryd.func10 Tryd.ntmps10 Tryd.results10 (fun S0 O0 w0 m0 hm0 => ?_)
 repeat' (fail_if_success refine fz true (s := ⟨_, [_]⟩) (by exact rfl) ?_); first | refine st (by exact rfl) ?_ | fail
 refine fz true (by exact rfl) ?_
 repeat' first | refine st (by exact rfl) ?_ | refine cl (by exact rfl) q33 ?_ | fail
 refine cd (by exact rfl) (fun hb => ?_) (fun hb => ?_)
 · have hr : p.right = false := by simpa using hb
   repeat' first | refine st (by exact rfl) ?_ | fail
   exact en (by exact rfl) (by rw [hr]; rfl)
 · have hr : p.right = true := by simpa using hb
   have hsz : p.bo.size ≤ 200 := right_size hr
   repeat' first | refine st (by exact rfl) ?_ | fail
   refine ow [4] [[u8s [114, 100, IntKind.u8.wrap p.kd, 0, 0, 0, 0, 0, 0, 0, 0, 58]], [u8s ([114, 100, IntKind.u8.wrap p.kd] ++ be4 p.nu ++ [0, 0, 0, 0, 58])]] (hc := ?_)
   refine qw 0 (hmm := rfl) (hs := rfl) (hj := rfl) (h := fun _ => rfl) (hq := fun rest _ _ => Q_sliceArr rfl rfl rfl rfl rfl u75 sz5 (by exact (by decide : 12 ≤ 12)) (by decide) (by decide) (by decide) (by decide)) (hc := ?_)
   refine Z3 ?_;refine Z3 ?_
   refine cw (hcl := q34) (hc := ?_)
   refine pw 0 (hm1 := rfl) (hm2 := rfl) (hs := rfl) (hj := rfl) (hop := rfl) (hy := fun rest => yCopy (ys := (be4 p.nu).map fun v => .int .u8 v) rfl rfl rfl rfl (by simp [D.cells]) (by simp [be4]) (by exact (by decide : 4 ≤ 4)) (by exact (by decide : 7 ≤ 12)) u76 sz5 (Nat.le_of_ble_eq_true rfl)) (hc := ?_)
   refine ew (hc := ?_)
   repeat' first | refine st (by exact rfl) ?_ | fail
   refine ow [5] [[u8s ([114, 100, IntKind.u8.wrap p.kd] ++ be4 p.nu ++ [0, 0, 0, 0, 58])], [u8s ([114, 100, IntKind.u8.wrap p.kd] ++ be4 p.nu ++ be4 p.bo.size ++ [58])]] (hc := ?_)
   refine qw 0 (hmm := rfl) (hs := rfl) (hj := rfl) (h := fun _ => rfl) (hq := fun rest _ _ => Q_sliceArr rfl rfl rfl rfl rfl u75 sz5 (by exact (by decide : 12 ≤ 12)) (by decide) (by decide) (by decide) (by decide)) (hc := ?_)
   refine Z3 ?_;refine Z3 ?_;refine Z3 ?_
   refine cw (hcl := q34') (hc := ?_)
   refine pw 0 (hm1 := rfl) (hm2 := rfl) (hs := rfl) (hj := rfl) (hop := rfl) (hy := fun rest => yCopy (ys := (be4 p.bo.size).map fun v => .int .u8 v) rfl rfl rfl rfl (by simp [D.cells]) (by simp [be4]) (by exact (by decide : 4 ≤ 4)) (by exact (by decide : 11 ≤ 12)) u76 sz5 (Nat.le_of_ble_eq_true rfl)) (hc := ?_)
   refine ew (hc := ?_)
   repeat' first | refine st (by exact rfl) ?_ | fail
   refine Z6 ?_
   refine oqw (hs := rfl) (hj := rfl) (h := fun _ => rfl) (hq := fun rest _ _ => Q_sliceArrAll rfl rfl rfl u75 sz5 (by exact (by decide : 12 ≤ 12)) (by decide) (by decide)) (hc := ?_)
   refine oqw (hs := rfl) (hj := rfl) (h := fun _ => rfl) (hq := fun rest _ _ => Q_rowStr (ns := [114, 100, IntKind.u8.wrap p.kd] ++ be4 p.nu ++ be4 p.bo.size ++ [58]) rfl rfl rfl rfl (by decide) rfl u76 u5 u9 rfl) (hc := ?_)
   iterate 2 refine ov (hc := ?_)
   refine oq (hcc := ?_) (hc := ?_)
   · show (strOfNums ([114, 100, IntKind.u8.wrap p.kd] ++ be4 p.nu ++ be4 p.bo.size ++ [58])).size + p.bo.size ≤ lim
     rw [strOfNums_size]
     show 12 + p.bo.size ≤ lim
     unfold lim
     omega
   iterate 2 refine ov (hc := ?_)
   refine Z7 ?_
   repeat' first | refine st (by exact rfl) ?_ | fail
   refine en (by exact rfl) ?_
   rw [if_pos hr, if_pos hr]
   unfold enB
   rw [u8_wrap]
end Go.Proofs.YtoonleefemkalaaDoor
namespace Go.Proofs.YtoonleefemkalaaDoor
open Go Go.Proofs.YtoonleefemkalaaDoor.E
end Go.Proofs.YtoonleefemkalaaDoor
