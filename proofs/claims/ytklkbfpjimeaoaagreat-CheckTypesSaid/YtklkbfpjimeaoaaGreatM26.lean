import Derived.Test.YtklkbfpjimeaoaaGreatProg
import Derived.KernelRfl
import Derived.Test.YtklkbfpjimeaoaaGreatM18
import Derived.Test.YtklkbfpjimeaoaaGreatM17
/- Contracts of functions. Conditions: none. -/
set_option linter.unusedSimpArgs false
set_option linter.unusedVariables false
namespace Go.Proofs.YtklkbfpjimeaoaaGreat
open Go Go.Proofs.YtklkbfpjimeaoaaGreat.E
section
def tab : List (Nat × TI) := [(2, ⟨true, 1, [.int .i64], (.int .i64)⟩),
 (3, ⟨true, 1, [.int .i64], (.int .i64)⟩),
 (4, ⟨true, 1, [.bool], .bool⟩),
 (5, ⟨true, 1, [.int .u8], (.int .u8)⟩),
 (6, ⟨true, 1, [.int .u8], (.int .u8)⟩),
 (7, ⟨false, 4, [.int .i64, .int .i64, .bool, .int .u8], (.struct [(0, 1, true), (1, 1, true), (2, 1, true), (3, 1, true)])⟩),
 (8, ⟨false, 4, [.int .i64, .int .i64, .bool, .int .u8], (.struct [(0, 1, true), (1, 1, true), (2, 1, true), (3, 1, true)])⟩),
 (9, ⟨true, 1, [.str], .str⟩),
 (10, ⟨true, 1, [.str], .str⟩),
 (11, ⟨true, 1, [.str], .str⟩),
 (12, ⟨true, 1, [.int .u64], (.int .u64)⟩),
 (13, ⟨false, 2, [.str, .int .u64], (.struct [(0, 1, true), (1, 1, true)])⟩),
 (14, ⟨false, 2, [.str, .int .u64], (.struct [(0, 1, true), (1, 1, true)])⟩),
 (15, ⟨true, 1, [.ptr], .ptr⟩),
 (16, ⟨true, 1, [.ptr], .ptr⟩),
 (17, ⟨true, 1, [.ptr], .ptr⟩),
 (18, ⟨false, 1, [.ptr], (.struct [(0, 1, true)])⟩),
 (19, ⟨false, 1, [.ptr], (.struct [(0, 1, true)])⟩),
 (20, ⟨true, 1, [.ifc], .other⟩),
 (21, ⟨true, 1, [.int .i32], (.int .i32)⟩),
 (22, ⟨true, 1, [.sl], (.slice 27 4 56 [.int .i64, .str, .int .i64, .sl])⟩),
 (23, ⟨true, 1, [.sl], (.slice 81 10 152 [.str, .bool, .bool, .sl, .int .i64, .str, .int .i64, .sl, .sl, .sl])⟩),
 (24, ⟨false, 2, [.sl, .sl], (.struct [(0, 1, true), (1, 1, true)])⟩),
 (25, ⟨false, 2, [.sl, .sl], (.struct [(0, 1, true), (1, 1, true)])⟩),
 (26, ⟨false, 4, [.int .i64, .str, .int .i64, .sl], (.struct [(0, 1, true), (1, 1, true), (2, 1, true), (3, 1, true)])⟩),
 (27, ⟨false, 4, [.int .i64, .str, .int .i64, .sl], (.struct [(0, 1, true), (1, 1, true), (2, 1, true), (3, 1, true)])⟩),
 (28, ⟨true, 1, [.sl], (.slice 106 3 40 [.str, .str, .bool])⟩),
 (33, ⟨true, 1, [.int .i64], (.int .i64)⟩),
 (36, ⟨true, 1, [.sl], (.slice 108 3 40 [.str, .str, .bool])⟩),
 (49, ⟨true, 1, [.sl], (.slice 59 5 72 [.str, .int .i64, .str, .int .i64, .sl])⟩),
 (51, ⟨true, 1, [.sl], (.slice 66 5 72 [.str, .int .i64, .str, .int .i64, .sl])⟩),
 (58, ⟨false, 5, [.str, .int .i64, .str, .int .i64, .sl], (.struct [(0, 1, true), (1, 4, false)])⟩),
 (59, ⟨false, 5, [.str, .int .i64, .str, .int .i64, .sl], (.struct [(0, 1, true), (1, 4, false)])⟩),
 (63, ⟨true, 1, [.sl], (.slice 9 1 16 [.str])⟩),
 (66, ⟨false, 5, [.str, .int .i64, .str, .int .i64, .sl], (.struct [(0, 1, true), (1, 4, false)])⟩),
 (73, ⟨true, 1, [.sl], (.slice 3 1 8 [.int .i64])⟩),
 (74, ⟨false, 2, [.int .i64, .sl], (.struct [(0, 1, true), (1, 1, true)])⟩),
 (75, ⟨false, 2, [.int .i64, .sl], (.struct [(0, 1, true), (1, 1, true)])⟩),
 (79, ⟨true, 1, [.sl], (.slice 102 6 88 [.str, .str, .int .i64, .str, .int .i64, .sl])⟩),
 (80, ⟨false, 10, [.str, .bool, .bool, .sl, .int .i64, .str, .int .i64, .sl, .sl, .sl], (.struct [(0, 1, true), (1, 1, true), (2, 1, true), (3, 1, true), (4, 4, false), (8, 1, true), (9, 1, true)])⟩),
 (81, ⟨false, 10, [.str, .bool, .bool, .sl, .int .i64, .str, .int .i64, .sl, .sl, .sl], (.struct [(0, 1, true), (1, 1, true), (2, 1, true), (3, 1, true), (4, 4, false), (8, 1, true), (9, 1, true)])⟩),
 (87, ⟨false, 2, [.int .i64, .sl], (.struct [(0, 1, true), (1, 1, true)])⟩),
 (101, ⟨false, 6, [.str, .str, .int .i64, .str, .int .i64, .sl], (.struct [(0, 1, true), (1, 1, true), (2, 4, false)])⟩),
 (102, ⟨false, 6, [.str, .str, .int .i64, .str, .int .i64, .sl], (.struct [(0, 1, true), (1, 1, true), (2, 4, false)])⟩),
 (105, ⟨false, 3, [.str, .str, .bool], (.struct [(0, 1, true), (1, 1, true), (2, 1, true)])⟩),
 (106, ⟨false, 3, [.str, .str, .bool], (.struct [(0, 1, true), (1, 1, true), (2, 1, true)])⟩),
 (108, ⟨false, 3, [.str, .str, .bool], (.struct [(0, 1, true), (1, 1, true), (2, 1, true)])⟩),
 (110, ⟨true, 1, [.map], (.map 9 108)⟩),
 (111, ⟨true, 1, [.ptr], .ptr⟩),
 (112, ⟨false, 4, [.sl, .sl, .map, .ptr], (.struct [(0, 2, false), (2, 1, true), (3, 1, true)])⟩),
 (113, ⟨false, 4, [.sl, .sl, .map, .ptr], (.struct [(0, 2, false), (2, 1, true), (3, 1, true)])⟩),
 (115, ⟨false, 2, [.int .i64, .sl], (.struct [(0, 1, true), (1, 1, true)])⟩),
 (116, ⟨false, 2, [.int .i64, .sl], (.struct [(0, 1, true), (1, 1, true)])⟩),
 (119, ⟨false, 6, [.str, .str, .bool, .ptr, .int .i64, .int .i64], (.struct [(0, 3, false), (3, 1, true), (4, 1, true), (5, 1, true)])⟩),
 (120, ⟨false, 6, [.str, .str, .bool, .ptr, .int .i64, .int .i64], (.struct [(0, 3, false), (3, 1, true), (4, 1, true), (5, 1, true)])⟩),
 (124, ⟨false, 4, [.sl, .sl, .sl, .sl], (.struct [(0, 2, false), (2, 1, true), (3, 1, true)])⟩),
 (125, ⟨false, 4, [.sl, .sl, .sl, .sl], (.struct [(0, 2, false), (2, 1, true), (3, 1, true)])⟩),
 (127, ⟨true, 1, [.map], (.map 3 189)⟩),
 (139, ⟨true, 1, [.ptr], .ptr⟩),
 (141, ⟨true, 1, [.ptr], .ptr⟩),
 (149, ⟨true, 1, [.ptr], .ptr⟩),
 (152, ⟨true, 1, [.ptr], .ptr⟩),
 (153, ⟨false, 20, [.sl, .sl, .map, .ptr, .str, .bool, .bool, .sl, .int .i64, .str, .int .i64, .sl, .sl, .sl, .sl, .int .i64, .ptr, .int .i64, .bool, .sl], (.struct [(0, 4, false), (4, 10, false), (14, 1, true), (15, 1, true), (16, 1, true), (17, 1, true), (18, 1, true), (19, 1, true)])⟩),
 (154, ⟨false, 20, [.sl, .sl, .map, .ptr, .str, .bool, .bool, .sl, .int .i64, .str, .int .i64, .sl, .sl, .sl, .sl, .int .i64, .ptr, .int .i64, .bool, .sl], (.struct [(0, 4, false), (4, 10, false), (14, 1, true), (15, 1, true), (16, 1, true), (17, 1, true), (18, 1, true), (19, 1, true)])⟩),
 (165, ⟨false, 20, [.sl, .sl, .sl, .sl, .str, .bool, .bool, .sl, .int .i64, .str, .int .i64, .sl, .sl, .sl, .bool, .bool, .sl, .int .i64, .sl, .int .i64], (.struct [(0, 4, false), (4, 10, false), (14, 1, true), (15, 1, true), (16, 1, true), (17, 1, true), (18, 1, true), (19, 1, true)])⟩),
 (166, ⟨false, 20, [.sl, .sl, .sl, .sl, .str, .bool, .bool, .sl, .int .i64, .str, .int .i64, .sl, .sl, .sl, .bool, .bool, .sl, .int .i64, .sl, .int .i64], (.struct [(0, 4, false), (4, 10, false), (14, 1, true), (15, 1, true), (16, 1, true), (17, 1, true), (18, 1, true), (19, 1, true)])⟩),
 (167, ⟨false, 3, [.str, .ptr, .ptr], (.struct [(0, 1, true), (1, 1, true), (2, 1, true)])⟩),
 (168, ⟨false, 3, [.str, .ptr, .ptr], (.struct [(0, 1, true), (1, 1, true), (2, 1, true)])⟩),
 (188, ⟨false, 3, [.sl, .bool, .fn], (.struct [(0, 1, true), (1, 1, true), (2, 1, true)])⟩),
 (189, ⟨false, 3, [.sl, .bool, .fn], (.struct [(0, 1, true), (1, 1, true), (2, 1, true)])⟩),
 (198, ⟨false, 3, [.int .i64, .int .i64, .int .i64], (.struct [(0, 1, true), (1, 1, true), (2, 1, true)])⟩),
 (199, ⟨false, 3, [.int .i64, .int .i64, .int .i64], (.struct [(0, 1, true), (1, 1, true), (2, 1, true)])⟩),
 (222, ⟨true, 1, [.map], (.map 9 9)⟩),
 (223, ⟨true, 1, [.map], (.map 225 222)⟩),
 (225, ⟨false, 2, [.str, .str], (.array 2 1)⟩),
 (227, ⟨false, 3, [.str, .str, .str], (.array 3 1)⟩),
 (228, ⟨false, 4, [.str, .str, .str, .str], (.array 4 1)⟩),
 (230, ⟨false, 3, [.str, .str, .int .i64], (.struct [(0, 1, true), (1, 1, true), (2, 1, true)])⟩),
 (231, ⟨false, 3, [.str, .str, .int .i64], (.struct [(0, 1, true), (1, 1, true), (2, 1, true)])⟩),
 (232, ⟨true, 1, [.map], (.map 9 231)⟩),
 (243, ⟨true, 1, [.sl], (.slice 5 1 1 [.int .u8])⟩),
 (249, ⟨true, 1, [.map], (.map 9 247)⟩),
 (253, ⟨true, 1, [.map], (.map 9 251)⟩),
 (259, ⟨false, 3, [.int .i64, .int .i64, .int .i64], (.struct [(0, 1, true), (1, 1, true), (2, 1, true)])⟩),
 (260, ⟨false, 3, [.int .i64, .int .i64, .int .i64], (.struct [(0, 1, true), (1, 1, true), (2, 1, true)])⟩),
 (286, ⟨true, 1, [.int .u64], (.int .u64)⟩),
 (304, ⟨false, 4, [.ptr, .ptr, .ptr, .str], (.struct [(0, 1, true), (1, 1, true), (2, 1, true), (3, 1, true)])⟩),
 (305, ⟨false, 4, [.ptr, .ptr, .ptr, .str], (.struct [(0, 1, true), (1, 1, true), (2, 1, true), (3, 1, true)])⟩),
 (306, ⟨false, 0, [], (.array 0 1)⟩),
 (307, ⟨false, 0, [], (.struct [(0, 0, false)])⟩),
 (308, ⟨false, 0, [], (.struct [(0, 0, false)])⟩),
 (309, ⟨true, 1, [.int .u32], (.int .u32)⟩),
 (310, ⟨true, 1, [.int .u8], (.int .u8)⟩),
 (311, ⟨true, 1, [.int .u8], (.int .u8)⟩),
 (313, ⟨true, 1, [.ptr], .ptr⟩),
 (314, ⟨true, 1, [.int .i32], (.int .i32)⟩),
 (315, ⟨true, 1, [.int .i32], (.int .i32)⟩),
 (316, ⟨false, 11, [.int .u64, .int .u64, .int .u32, .int .u8, .int .u8, .int .u8, .int .u8, .fn, .ptr, .int .i32, .int .i32], (.struct [(0, 1, true), (1, 1, true), (2, 1, true), (3, 1, true), (4, 1, true), (5, 1, true), (6, 1, true), (7, 1, true), (8, 1, true), (9, 1, true), (10, 1, true)])⟩),
 (317, ⟨false, 11, [.int .u64, .int .u64, .int .u32, .int .u8, .int .u8, .int .u8, .int .u8, .fn, .ptr, .int .i32, .int .i32], (.struct [(0, 1, true), (1, 1, true), (2, 1, true), (3, 1, true), (4, 1, true), (5, 1, true), (6, 1, true), (7, 1, true), (8, 1, true), (9, 1, true), (10, 1, true)])⟩)]
theorem tabOk : tabB Tryz.prog tab = true := by kernel_rfl
variable {n : Nat} {S0 : Reg} {O0 : Owns} {w0 : World} {m0 Bs : List Nat} {ds : List Deferred} {fr : List Fr} {Q : Exit → GS → Prop} {s : GS} {ob : List (Bool × Bool)}
theorem st {fr' : List Fr} {c c' : Cf} {s' : GS} (h : adv tab n fr c s = some (ob, fr', c', s')) (hg : GF ⟨Tryz.prog, n, S0, O0, w0, m0, Bs, ds⟩ fr' c' Q s') (ho : Obl ob := by repeat first | exact Obl.nil | refine Obl.same ?_ | refine Obl.imp (fun h => by simp_all) ?_) : GF ⟨Tryz.prog, n, S0, O0, w0, m0, Bs, ds⟩ fr c Q s := adv_of tabOk h hg ho
variable {c : Operand} {x y : Code} {b : Bool}
theorem cd (hc : evl s.slots c = .d (.bool b)) (hx : b = true → GF ⟨Tryz.prog, n, S0, O0, w0, m0, Bs, ds⟩ fr (.code x) Q s) (hy : b = false → GF ⟨Tryz.prog, n, S0, O0, w0, m0, Bs, ds⟩ fr (.code y) Q s) : GF ⟨Tryz.prog, n, S0, O0, w0, m0, Bs, ds⟩ fr (.code (.cond c x y)) Q s := gcd hc hx hy
variable {ops : Array Oper} {i t m : Nat} {l : List Nat} {sl : List (Nat × PV)} {mem : List (List PV)}
theorem el {xs : List D} {j : Int} {d : D} (h : ixs tab ops.toList n i sl = some (t, none, ob, xs, j, m)) (hd : xs[j.toNat]? = some d) (hg : GF ⟨Tryz.prog, n, S0, O0, w0, m0, Bs, ds⟩ fr (.ops ops l) Q ⟨(t, .d (.ptr d)) :: sl, mem⟩) (h0 : 0 ≤ j := by omega) (hn : d.cells.length = m := by first | rfl | simp [D.cells]) (hm : 0 < m := by decide) (ho : Obl ob := by repeat first | exact Obl.nil | refine Obl.same ?_ | refine Obl.imp (fun h => by simp_all) ?_) : GF ⟨Tryz.prog, n, S0, O0, w0, m0, Bs, ds⟩ fr (.ops ops (i :: l)) Q ⟨sl, mem⟩ := gI d tabOk h (fun _ => ⟨h0, hd, hn⟩) hm ho hg
variable {g : Bool}
theorem elg {xs : List D} {j : Int} (d : D) (h : ixs tab ops.toList n i sl = some (t, some g, ob, xs, j, m)) (hd : g = true → 0 ≤ j ∧ xs[j.toNat]? = some d ∧ d.cells.length = m) (hg : GF ⟨Tryz.prog, n, S0, O0, w0, m0, Bs, ds⟩ fr (.ops ops l) Q ⟨(t, .when g (.d (.ptr d))) :: sl, mem⟩) (hm : 0 < m := by decide) (ho : Obl ob := by repeat first | exact Obl.nil | refine Obl.same ?_ | refine Obl.imp (fun h => by simp_all) ?_) : GF ⟨Tryz.prog, n, S0, O0, w0, m0, Bs, ds⟩ fr (.ops ops (i :: l)) Q ⟨sl, mem⟩ := gI d tabOk h hd hm ho hg
variable {f : FuncId} {r : PV}
theorem cl {ds' : List D} (h : cls ops.toList n i sl = some (t, none, ob, f, ds')) (hc : Pf Tryz.prog f ds' r) (hg : GF ⟨Tryz.prog, n, S0, O0, w0, m0, Bs, ds⟩ fr (.ops ops l) Q ⟨(t, r) :: sl, mem⟩) (ho : Obl ob := by repeat first | exact Obl.nil | refine Obl.same ?_ | refine Obl.imp (fun h => by simp_all) ?_) : GF ⟨Tryz.prog, n, S0, O0, w0, m0, Bs, ds⟩ fr (.ops ops (i :: l)) Q ⟨sl, mem⟩ := gC h (fun _ => hc) ho hg
theorem clg {ds' : List D} (h : cls ops.toList n i sl = some (t, some g, ob, f, ds')) (hc : g = true → Pf Tryz.prog f ds' r) (hg : GF ⟨Tryz.prog, n, S0, O0, w0, m0, Bs, ds⟩ fr (.ops ops l) Q ⟨(t, .when g r) :: sl, mem⟩) (ho : Obl ob := by repeat first | exact Obl.nil | refine Obl.same ?_ | refine Obl.imp (fun h => by simp_all) ?_) : GF ⟨Tryz.prog, n, S0, O0, w0, m0, Bs, ds⟩ fr (.ops ops (i :: l)) Q ⟨sl, mem⟩ := gC h hc ho hg
variable {p : PV}
theorem qu {C : Prop} (h : qcs tab ops.toList n i sl = some (t, none, ob, C, p)) (hc : C) (hg : GF ⟨Tryz.prog, n, S0, O0, w0, m0, Bs, ds⟩ fr (.ops ops l) Q ⟨(t, p) :: sl, mem⟩) (ho : Obl ob := by repeat first | exact Obl.nil | refine Obl.same ?_ | refine Obl.imp (fun h => by simp_all) ?_) : GF ⟨Tryz.prog, n, S0, O0, w0, m0, Bs, ds⟩ fr (.ops ops (i :: l)) Q ⟨sl, mem⟩ := gQ tabOk h (fun _ => hc) ho hg
variable {k : Nat}
theorem ap {u b : Nat} {xs ys : List D} (h : aps tab ops.toList n i sl = some (t, u, k, b, xs, ys)) (hg : GF ⟨Tryz.prog, n, S0, O0, w0, m0, Bs, ds⟩ fr (.ops ops l) Q ⟨(t, .osl k (xs ++ ys)) :: (u, .d (.sl xs)) :: sl, mem⟩) (hk0 : 0 < k := by decide) (hne : ys ≠ [] := by simp) (hk : ∀ y ∈ ys, y.cells.length = k := by simp [D.cells]) (hl : xs.length + ys.length ≤ lim := by simp only [lim, List.length_cons, List.length_nil, List.length_append, List.length_map]; omega) (hB : (xs.length + ys.length) * b ≤ lim := by simp only [lim, List.length_cons, List.length_nil, List.length_append, List.length_map]; omega) : GF ⟨Tryz.prog, n, S0, O0, w0, m0, Bs, ds⟩ fr (.ops ops (i :: l)) Q ⟨sl, mem⟩ := gA tabOk h hk0 hne hk hl hB hg
theorem bs {xs : List D} (h : bss tab ops.toList n i sl = some (t, k, xs)) (hg : GF ⟨Tryz.prog, n, S0, O0, w0, m0, Bs, ds⟩ fr (.ops ops l) Q ⟨(t, .osl k xs) :: sl, mem⟩) (hk0 : 0 < k := by decide) (hk : ∀ d ∈ xs, d.cells.length = k := by simp [D.cells]) : GF ⟨Tryz.prog, n, S0, O0, w0, m0, Bs, ds⟩ fr (.ops ops (i :: l)) Q ⟨sl, mem⟩ := gB tabOk h hk0 hk hg
theorem fz (isAgg : Bool) {n : Nat} {S0 : Reg} {O0 : Owns} {w0 : World} {m0 Bs : List Nat} {ds : List Deferred} {fr : List Fr} {Q : Exit → GS → Prop} {c : Cf} {s s' : GS} {k : Nat} {d : D} (h : frs isAgg s = some (k, d, s')) (hg : GF ⟨Tryz.prog, n, S0, O0, w0, m0, Bs, ds⟩ fr c Q s') (hk : m0.length ≤ k := by first | (dsimp only [List.length_cons, List.length_nil]; omega) | simp_all) (hrf : s'.mem.all (PV.refsBs k) = true := by rfl) (hc : goes c = true := by rfl) : GF ⟨Tryz.prog, n, S0, O0, w0, m0, Bs, ds⟩ fr c Q s := gFz isAgg h hk hrf hc hg
variable {K : Ctx} {rvs : List ResultVar} {e : Exit} {q : PV}
theorem en (h : E.endK tab sl mem rvs e = some q) (hr : q = r) (hb : PV.refsB 0 q = true := by rfl) : GF K [] (.leave e) (Fin Tryz.prog rvs 0 (fun q m => q = r ∧ m = [])) ⟨sl, mem⟩ := gEnd tabOk h hb hr
theorem mixed : Tryz.prog.follows .mixedOrders = true := by kernel_rfl
variable {base : List (Nat × PV)}
theorem oo {id : Nat} {tt : List Nat} (hb : baseK ops.toList sl = some (tt, base) := by exact rfl) (hdep : ((List.range ops.size).all fun i => (depsOf ops i).all fun d => Nat.blt d i) = true := by kernel_rfl) (hc : CO ⟨Tryz.prog, n, S0, O0, w0, m0, Bs, ds⟩ fr ops base mem 0 [] Q) : GF ⟨Tryz.prog, n, S0, O0, w0, m0, Bs, ds⟩ fr (.code (.region id ops true)) Q ⟨sl, mem⟩ := gOpen hb mixed hdep hc
variable {pre : List (Nat × PV)} {j : Nat} {es es' : List (Nat × Nat × PV)}
theorem ov (hs : see ops.toList i es base = some pre := by exact rfl) (hj : nth nums (i + 1) = some j := by exact rfl) (h : ∀ rest, E.step tab ops.toList n i ⟨pre ++ rest, mem⟩ = some (ob, ⟨(t, p) :: (pre ++ rest), mem⟩) := by exact fun _ => rfl) (hes : snocK es (i, t, p) some = some es' := by exact rfl) (hc : CO ⟨Tryz.prog, n, S0, O0, w0, m0, Bs, ds⟩ fr ops base mem j es' Q) (ho : Obl ob := by repeat first | exact Obl.nil | refine Obl.same ?_ | refine Obl.imp (fun h => by simp_all) ?_) : CO ⟨Tryz.prog, n, S0, O0, w0, m0, Bs, ds⟩ fr ops base mem i es Q := oV tabOk hs hj h hes hc ho
theorem oc {ds' : List D} (hs : see ops.toList i es base = some pre := by exact rfl) (hj : nth nums (i + 1) = some j := by exact rfl) (h : ∀ rest, cls ops.toList n i (pre ++ rest) = some (t, none, ob, f, ds') := by exact fun _ => rfl) (hcl : Pf Tryz.prog f ds' r) (hes : snocK es (i, t, r) some = some es' := by exact rfl) (hc : CO ⟨Tryz.prog, n, S0, O0, w0, m0, Bs, ds⟩ fr ops base mem j es' Q) (ho : Obl ob := by repeat first | exact Obl.nil | refine Obl.same ?_ | refine Obl.imp (fun h => by simp_all) ?_) : CO ⟨Tryz.prog, n, S0, O0, w0, m0, Bs, ds⟩ fr ops base mem i es Q := oC (g := none) hs hj h (fun _ => hcl) hes hc ho
theorem ocg {ds' : List D} (hs : see ops.toList i es base = some pre := by exact rfl) (hj : nth nums (i + 1) = some j := by exact rfl) (h : ∀ rest, cls ops.toList n i (pre ++ rest) = some (t, some g, ob, f, ds') := by exact fun _ => rfl) (hcl : g = true → Pf Tryz.prog f ds' r) (hes : snocK es (i, t, .when g r) some = some es' := by exact rfl) (hc : CO ⟨Tryz.prog, n, S0, O0, w0, m0, Bs, ds⟩ fr ops base mem j es' Q) (ho : Obl ob := by repeat first | exact Obl.nil | refine Obl.same ?_ | refine Obl.imp (fun h => by simp_all) ?_) : CO ⟨Tryz.prog, n, S0, O0, w0, m0, Bs, ds⟩ fr ops base mem i es Q := oC (g := some g) hs hj h hcl hes hc ho
theorem oi {xs : List D} {ix : Int} {d : D} (hs : see ops.toList i es base = some pre := by exact rfl) (hj : nth nums (i + 1) = some j := by exact rfl) (h : ∀ rest, ixs tab ops.toList n i (pre ++ rest) = some (t, none, ob, xs, ix, m) := by exact fun _ => rfl) (hd : xs[ix.toNat]? = some d) (hes : snocK es (i, t, .d (.ptr d)) some = some es' := by exact rfl) (hc : CO ⟨Tryz.prog, n, S0, O0, w0, m0, Bs, ds⟩ fr ops base mem j es' Q) (h0 : 0 ≤ ix := by omega) (hn : d.cells.length = m := by first | rfl | simp [D.cells]) (hm : 0 < m := by decide) (ho : Obl ob := by repeat first | exact Obl.nil | refine Obl.same ?_ | refine Obl.imp (fun h => by simp_all) ?_) : CO ⟨Tryz.prog, n, S0, O0, w0, m0, Bs, ds⟩ fr ops base mem i es Q := oI (g := none) d tabOk hs hj h (fun _ => ⟨h0, hd, hn⟩) hm hes hc ho
theorem oe (hi : sizeIs ops.toList i = true := by exact rfl) (hp : putK es base some = some sl := by exact rfl) (hc : GF ⟨Tryz.prog, n, S0, O0, w0, m0, Bs, ds⟩ fr (.leave .normal) Q ⟨sl, mem⟩) (hn : nodupB (es.map (·.2.1)) = true := by rfl) (hb : base.all (fun x => !(es.map (·.2.1)).contains x.1) = true := by rfl) (hf : es.all (fun x => Nat.blt x.1 ops.size) = true := by rfl) : CO ⟨Tryz.prog, n, S0, O0, w0, m0, Bs, ds⟩ fr ops base mem i es Q := oEnd hi hp hc hn hb hf
theorem clp {ds' : List D} {u : Value} (h : cls ops.toList n i sl = some (t, none, ob, f, ds')) (hc : Px Tryz.prog f ds' (.inr u)) (hg : GF ⟨Tryz.prog, n, S0, O0, w0, m0, Bs, ds⟩ fr (.leave (.panic (chain1 u))) Q ⟨sl, mem⟩) : GF ⟨Tryz.prog, n, S0, O0, w0, m0, Bs, ds⟩ fr (.ops ops (i :: l)) Q ⟨sl, mem⟩ := gCP h hc hg
theorem enx {out : PV ⊕ Value} {RX : Value → List (List PV) → Prop} (h : E.endK tab sl mem rvs e = some q) (hr : out = .inl q) (hb : PV.refsB 0 q = true := by rfl) : GF K [] (.leave e) (FinX Tryz.prog rvs 0 (fun q m => out = .inl q ∧ m = []) RX) ⟨sl, mem⟩ := gEndX tabOk h hb hr
variable {kt : TypeId} {mem' : List (List PV)}
theorem mu {b : Nat} {ks : List D} {vs : List PV} {k : D} {kb : D → Bool} (C : KC Tryz.prog kt kb) (h : mus tab ops.toList i sl = some (b, kt, k, p) := by exact rfl) (hm : nth mem b = some (mpc ks vs) := by exact rfl) (hmem : putMK mem b ks vs k p = some mem' := by exact rfl) (hg : GF ⟨Tryz.prog, n, S0, O0, w0, m0, Bs, ds⟩ fr (.ops ops l) Q ⟨sl, mem'⟩) (hl : vs.length = ks.length := by rfl) (hks : ks.all kb = true := by rfl) (hk : kb k = true := by rfl) (hno : p.noown = true := by rfl) : GF ⟨Tryz.prog, n, S0, O0, w0, m0, Bs, ds⟩ fr (.ops ops (i :: l)) Q ⟨sl, mem⟩ := gMuC tabOk h hm C hl hks hk hno hmem hg
variable {ok : Bool} {et : TypeId} {zp : PV}
theorem lo {b : Nat} {k : D} {ks : List D} {vs : List PV} {kb : D → Bool} (C : KC Tryz.prog kt kb) (h : lks tab ops.toList n i sl = some (t, ok, .mref b, kt, et, k) := by exact rfl) (hz : zvT tab et = some zp := by exact rfl) (hm : nth mem b = some (mpc ks vs) := by exact rfl) (hr : lkK ok k zp ks vs = some r := by exact rfl) (hg : GF ⟨Tryz.prog, n, S0, O0, w0, m0, Bs, ds⟩ fr (.ops ops l) Q ⟨(t, r) :: sl, mem⟩) (hl : vs.length = ks.length := by rfl) (hks : ks.all kb = true := by rfl) (hk : kb k = true := by rfl) (hno : PV.noowns vs = true := by rfl) : GF ⟨Tryz.prog, n, S0, O0, w0, m0, Bs, ds⟩ fr (.ops ops (i :: l)) Q ⟨sl, mem⟩ := gLkC tabOk h hz hm C hl hks hk hno hr hg
theorem me (h : mes tab ops.toList n i sl = some (t, b)) (hg : GF ⟨Tryz.prog, n, S0, O0, w0, m0, Bs, ds⟩ fr (.ops ops l) Q ⟨(t, .d (.bool b)) :: sl, mem⟩) : GF ⟨Tryz.prog, n, S0, O0, w0, m0, Bs, ds⟩ fr (.ops ops (i :: l)) Q ⟨sl, mem⟩ := gMe tabOk h hg
theorem fm (lo : Nat) {n : Nat} {S0 : Reg} {O0 : Owns} {w0 : World} {m0 Bs : List Nat} {ds : List Deferred} {fr : List Fr} {Q : Exit → GS → Prop} {c : Cf} {sl : List (Nat × PV)} {mem keep : List (List PV)} {s' : GS} {ks : List D} {vs : List PV} {k : Nat} (kb : D → Bool) (hkb : ∀ k, kb k = true → k ≠ .nilF) (hp : popK mem (fun a b => some (a, b)) = some (keep, mpc ks vs) := by exact rfl) (hf : fmS ⟨sl, mem⟩ keep ks vs = some (k, s') := by exact rfl) (hg : GF ⟨Tryz.prog, n, S0, O0, w0, m0, Bs, ds⟩ fr c Q s') (hlo : Nat.ble lo k = true := by rfl) (hl : vs.length = ks.length := by rfl) (hks : ks.all kb = true := by rfl) (hm : m0.length ≤ k := by first | (dsimp only [List.length_cons, List.length_nil]; omega) | simp_all) (hc : goes c = true := by rfl) : GF ⟨Tryz.prog, n, S0, O0, w0, m0, Bs, ds⟩ fr c Q ⟨sl, mem⟩ := gFmC hp hf hl hks hkb hm hc hg
theorem cm {args : List PV} (h : cms ops.toList n i sl = some (t, f, args)) (hc : Gm Tryz.prog f args mem r mem') (hg : GF ⟨Tryz.prog, n, S0, O0, w0, m0, Bs, ds⟩ fr (.ops ops l) Q ⟨(t, r) :: sl, mem'⟩) (hra : PV.refsBs mem.length args = true := by rfl) (hrm : mem.all (PV.refsBs mem.length) = true := by rfl) (hle : mem.length ≤ mem'.length := by exact oR rfl) : GF ⟨Tryz.prog, n, S0, O0, w0, m0, Bs, ds⟩ fr (.ops ops (i :: l)) Q ⟨sl, mem⟩ := gM h hc hra hrm hle hg
theorem enm (h : E.endK tab sl mem rvs e = some q) (hr : q = r) (hm : MSub mem'.length mem mem') (hb : PV.refsB mem'.length q = true := by rfl) (hn : k ≤ mem'.length := by exact oR rfl) : GF K [] (.leave e) (Fin Tryz.prog rvs k (fun q m => q = r ∧ m = mem')) ⟨sl, mem⟩ := gEndM tabOk h hb hn hm ⟨hr, rfl⟩
theorem ct (hc : evl s.slots c = .d (.bool b)) (hx : GF ⟨Tryz.prog, n, S0, O0, w0, m0, Bs, ds⟩ fr (.code x) Q s) (hb : b = true := by decide) : GF ⟨Tryz.prog, n, S0, O0, w0, m0, Bs, ds⟩ fr (.code (.cond c x y)) Q s := gct hc hb hx
theorem cf (hc : evl s.slots c = .d (.bool b)) (hy : GF ⟨Tryz.prog, n, S0, O0, w0, m0, Bs, ds⟩ fr (.code y) Q s) (hb : b = false := by decide) : GF ⟨Tryz.prog, n, S0, O0, w0, m0, Bs, ds⟩ fr (.code (.cond c x y)) Q s := gcf hc hb hy
theorem msame : ∀ {mem : List (List PV)}, mem.all (PV.refsBs n) = true → MSub n mem mem
 | [], _ => .nil
 | c :: r, h => by
  rw [List.all_cons, Bool.and_eq_true] at h
  refine .cons ?_ (msame h.2)
  have : ∀ {cs : List PV}, PV.refsBs n cs = true → CSub n cs cs := by
   intro cs
   induction cs with
   | nil => intro _; exact .nil
   | cons p r ih => intro h; rw [PV.refsBs, Bool.and_eq_true] at h; exact .cons (.inl rfl) h.1 (ih h.2)
  exact this h.1
theorem fg (lo : Nat) {n : Nat} {S0 : Reg} {O0 : Owns} {w0 : World} {m0 Bs : List Nat} {ds : List Deferred} {fr : List Fr} {Q : Exit → GS → Prop} {c : Cf} {s s' : GS} {k : Nat} (h : fgS s = some (k, s')) (hg : GF ⟨Tryz.prog, n, S0, O0, w0, m0, Bs, ds⟩ fr c Q s') (hlo : Nat.ble lo k = true := by rfl) (hk : m0.length ≤ k := by first | (dsimp only [List.length_cons, List.length_nil]; omega) | simp_all) (hrf : s'.mem.all (PV.refsBs k) = true := by rfl) (hc : goes c = true := by rfl) : GF ⟨Tryz.prog, n, S0, O0, w0, m0, Bs, ds⟩ fr c Q s := gFg h hk hrf hc hg
theorem sk (h : gsk ops.toList n i sl = some (t, g)) (hgf : g = false) (hg : GF ⟨Tryz.prog, n, S0, O0, w0, m0, Bs, ds⟩ fr (.ops ops l) Q ⟨(t, .when g (.d (.bool false))) :: sl, mem⟩) : GF ⟨Tryz.prog, n, S0, O0, w0, m0, Bs, ds⟩ fr (.ops ops (i :: l)) Q ⟨sl, mem⟩ := gSk (.d (.bool false)) h hgf hg
theorem ls {k zd : D} {kvs : List (D × D)} {kb : D → Bool} (C : KC Tryz.prog kt kb) (h : lks tab ops.toList n i sl = some (t, ok, .d (.map kvs), kt, et, k)) (hg : GF ⟨Tryz.prog, n, S0, O0, w0, m0, Bs, ds⟩ fr (.ops ops l) Q ⟨(t, r) :: sl, mem⟩) (hz : zvT tab et = some zp := by exact rfl) (hzd : zp.toD = some zd := by exact rfl) (hr : lsK ok k zd kvs = some r := by exact rfl) (hks : kvs.all (fun x => kb x.1) = true := by rfl) (hk : kb k = true := by rfl) : GF ⟨Tryz.prog, n, S0, O0, w0, m0, Bs, ds⟩ fr (.ops ops (i :: l)) Q ⟨sl, mem⟩ := gLsC tabOk h hz hzd C hks hk hr hg
theorem ols {k zd : D} {kvs : List (D × D)} {kb : D → Bool} (C : KC Tryz.prog kt kb) (hs : see ops.toList i es base = some pre := by exact rfl) (hj : nth nums (i + 1) = some j := by exact rfl) (h : ∀ rest, lks tab ops.toList n i (pre ++ rest) = some (t, ok, .d (.map kvs), kt, et, k) := by exact fun _ => rfl) (hz : zvT tab et = some zp := by exact rfl) (hzd : zp.toD = some zd := by exact rfl) (hr : lsK ok k zd kvs = some r := by exact rfl) (hks : kvs.all (fun x => kb x.1) = true := by rfl) (hk : kb k = true := by rfl) (hes : snocK es (i, t, r) some = some es' := by exact rfl) (hc : CO ⟨Tryz.prog, n, S0, O0, w0, m0, Bs, ds⟩ fr ops base mem j es' Q) : CO ⟨Tryz.prog, n, S0, O0, w0, m0, Bs, ds⟩ fr ops base mem i es Q :=
 oStep hs hj hes hc fun rest _ hg => gLsC tabOk (h rest) hz hzd C hks hk hr hg
theorem enxm {out : PV ⊕ Value} {RX : Value → List (List PV) → Prop} (h : E.endK tab sl mem rvs e = some q) (hr : out = .inl q) (hm : MSub mem'.length mem mem') (hb : PV.refsB mem'.length q = true := by rfl) (hn : k ≤ mem'.length := by exact oR rfl) : GF K [] (.leave e) (FinX Tryz.prog rvs k (fun q m => out = .inl q ∧ m = mem') RX) ⟨sl, mem⟩ := gEndXM tabOk h hr hm hb hn
theorem oig {xs : List D} {ix : Int} (d : D) (hs : see ops.toList i es base = some pre := by exact rfl) (hj : nth nums (i + 1) = some j := by exact rfl) (h : ∀ rest, ixs tab ops.toList n i (pre ++ rest) = some (t, some g, ob, xs, ix, m) := by exact fun _ => rfl) (hd : g = true → 0 ≤ ix ∧ xs[ix.toNat]? = some d ∧ d.cells.length = m) (hes : snocK es (i, t, .when g (.d (.ptr d))) some = some es' := by exact rfl) (hc : CO ⟨Tryz.prog, n, S0, O0, w0, m0, Bs, ds⟩ fr ops base mem j es' Q) (hm : 0 < m := by decide) (ho : Obl ob := by repeat first | exact Obl.nil | refine Obl.same ?_ | refine Obl.imp (fun h => by simp_all) ?_) : CO ⟨Tryz.prog, n, S0, O0, w0, m0, Bs, ds⟩ fr ops base mem i es Q := oI (g := some g) d tabOk hs hj h hd hm hes hc ho
theorem oqg {C : Prop} (hs : see ops.toList i es base = some pre := by exact rfl) (hj : nth nums (i + 1) = some j := by exact rfl) (h : ∀ rest, qcs tab ops.toList n i (pre ++ rest) = some (t, some g, ob, C, p) := by exact fun _ => rfl) (hcc : g = true → C) (hes : snocK es (i, t, .when g p) some = some es' := by exact rfl) (hc : CO ⟨Tryz.prog, n, S0, O0, w0, m0, Bs, ds⟩ fr ops base mem j es' Q) (ho : Obl ob := by repeat first | exact Obl.nil | refine Obl.same ?_ | refine Obl.imp (fun h => by simp_all) ?_) : CO ⟨Tryz.prog, n, S0, O0, w0, m0, Bs, ds⟩ fr ops base mem i es Q := oQ (g := some g) tabOk hs hj h hcc hes hc ho
theorem oix {len : Nat} {ty e : TypeId} {td : TypeDesc} {ds' : List D} {jx : Int} (d : D) (hu : Tryz.prog.underlying ty = some (.array len e)) (he : Tryz.prog.underlying e = some td) (hs : see ops.toList i es base = some pre := by exact rfl) (hj : nth nums (i + 1) = some j := by exact rfl) (h : ∀ rest, ixv ops.toList n i (pre ++ rest) = some (t, ty, ds', jx) := by exact fun _ => rfl) (hes : snocK es (i, t, .d d) some = some es' := by exact rfl) (hc : CO ⟨Tryz.prog, n, S0, O0, w0, m0, Bs, ds⟩ fr ops base mem j es' Q) (hd : ds'[jx.toNat]? = some d := by rfl) (h0 : 0 ≤ jx := by decide) (h1 : jx < len := by decide) (hz : (Tryz.prog.info? e).map (·.size) = some 1 := by kernel_rfl) (hl : leafT td = true := by rfl) : CO ⟨Tryz.prog, n, S0, O0, w0, m0, Bs, ds⟩ fr ops base mem i es Q :=
 oStep hs hj hes hc fun rest _ hg => gIx (h rest) hu hz he hl h0 h1 hd hg
theorem om (iA iS : Nat) (mem1 mem2 : List (List PV)) {n : Nat} {S0 : Reg} {O0 : Owns} {w0 : World} {m0 Bs : List Nat} {ds : List Deferred} {fr : List Fr} {Q : Exit → GS → Prop} {id : Nat} {ops : Array Oper} {sl base : List (Nat × PV)} {mem : List (List PV)} {tt : List Nat} (hb : baseK ops.toList sl = some (tt, base) := by exact rfl) (hdep : ((List.range ops.size).all fun i => (depsOf ops i).all fun d => Nat.blt d i) = true := by kernel_rfl) (hc : COm ⟨Tryz.prog, n, S0, O0, w0, m0, Bs, ds⟩ fr ops base iA iS mem mem1 mem2 0 [] Q) : GF ⟨Tryz.prog, n, S0, O0, w0, m0, Bs, ds⟩ fr (.code (.region id ops true)) Q ⟨sl, mem⟩ := gOpenM iA iS hb mixed hdep hc
variable {iA iS : Nat} {mem1 mem2 : List (List PV)}
theorem ovm (hs : see ops.toList i es base = some pre := by exact rfl) (hj : nth nums (i + 1) = some j := by exact rfl) (h : ∀ rest mm, E.step tab ops.toList n i ⟨pre ++ rest, mm⟩ = some (ob, ⟨(t, p) :: (pre ++ rest), mm⟩) := by exact fun _ _ => rfl) (hes : snocK es (i, t, p) some = some es' := by exact rfl) (hc : COm ⟨Tryz.prog, n, S0, O0, w0, m0, Bs, ds⟩ fr ops base iA iS mem mem1 mem2 j es' Q) (h1 : Nat.beq i iA = false := by rfl) (h2 : Nat.beq i iS = false := by rfl) (ho : Obl ob := by repeat first | exact Obl.nil | refine Obl.same ?_ | refine Obl.imp (fun h => by simp_all) ?_) : COm ⟨Tryz.prog, n, S0, O0, w0, m0, Bs, ds⟩ fr ops base iA iS mem mem1 mem2 i es Q :=
 oStepM hs hj hes h1 h2 hc fun rest mm _ hg => toO (gv tabOk (h rest mm) (ofO hg) ho)
theorem ocm {ds' : List D} (hs : see ops.toList i es base = some pre := by exact rfl) (hj : nth nums (i + 1) = some j := by exact rfl) (h : ∀ rest, cls ops.toList n i (pre ++ rest) = some (t, none, ob, f, ds') := by exact fun _ => rfl) (hcl : Pf Tryz.prog f ds' r) (hes : snocK es (i, t, r) some = some es' := by exact rfl) (hc : COm ⟨Tryz.prog, n, S0, O0, w0, m0, Bs, ds⟩ fr ops base iA iS mem mem1 mem2 j es' Q) (h1 : Nat.beq i iA = false := by rfl) (h2 : Nat.beq i iS = false := by rfl) (ho : Obl ob := by repeat first | exact Obl.nil | refine Obl.same ?_ | refine Obl.imp (fun h => by simp_all) ?_) : COm ⟨Tryz.prog, n, S0, O0, w0, m0, Bs, ds⟩ fr ops base iA iS mem mem1 mem2 i es Q :=
 oStepM hs hj hes h1 h2 hc fun rest mm _ hg => gC (h rest) (fun _ => hcl) ho hg
theorem olsm {k zd : D} {kvs : List (D × D)} {kb : D → Bool} (C : KC Tryz.prog kt kb) (hs : see ops.toList i es base = some pre := by exact rfl) (hj : nth nums (i + 1) = some j := by exact rfl) (h : ∀ rest, lks tab ops.toList n i (pre ++ rest) = some (t, ok, .d (.map kvs), kt, et, k) := by exact fun _ => rfl) (hz : zvT tab et = some zp := by exact rfl) (hzd : zp.toD = some zd := by exact rfl) (hr : lsK ok k zd kvs = some r := by exact rfl) (hks : kvs.all (fun x => kb x.1) = true := by rfl) (hk : kb k = true := by rfl) (hes : snocK es (i, t, r) some = some es' := by exact rfl) (hc : COm ⟨Tryz.prog, n, S0, O0, w0, m0, Bs, ds⟩ fr ops base iA iS mem mem1 mem2 j es' Q) (h1 : Nat.beq i iA = false := by rfl) (h2 : Nat.beq i iS = false := by rfl) : COm ⟨Tryz.prog, n, S0, O0, w0, m0, Bs, ds⟩ fr ops base iA iS mem mem1 mem2 i es Q :=
 oStepM hs hj hes h1 h2 hc fun rest mm _ hg => gLsC tabOk (h rest) hz hzd C hks hk hr hg
theorem omk (hs : see ops.toList iA es base = some pre := by exact rfl) (hj : nth nums (iA + 1) = some j := by exact rfl) (h : ∀ rest, E.step tab ops.toList n iA ⟨pre ++ rest, mem⟩ = some (ob, ⟨(t, p) :: (pre ++ rest), mem1⟩) := by exact fun _ => rfl) (hes : snocK es (iA, t, p) some = some es' := by exact rfl) (hc : COm ⟨Tryz.prog, n, S0, O0, w0, m0, Bs, ds⟩ fr ops base iA iS mem mem1 mem2 j es' Q) (h1 : memN iA (depsOf ops iS) = true := by rfl) (h2 : Nat.beq iS iA = false := by rfl) (ho : Obl ob := by repeat first | exact Obl.nil | refine Obl.same ?_ | refine Obl.imp (fun h => by simp_all) ?_) : COm ⟨Tryz.prog, n, S0, O0, w0, m0, Bs, ds⟩ fr ops base iA iS mem mem1 mem2 iA es Q :=
 oMake hs hj hes h1 h2 hc fun rest _ hg => toO (gv tabOk (h rest) (ofO hg) ho)
theorem ofl (hs : see ops.toList iS es base = some pre := by exact rfl) (hj : nth nums (iS + 1) = some j := by exact rfl) (h : ∀ rest, E.step tab ops.toList n iS ⟨pre ++ rest, mem1⟩ = some (ob, ⟨pre ++ rest, mem2⟩) := by exact fun _ => rfl) (hc : COm ⟨Tryz.prog, n, S0, O0, w0, m0, Bs, ds⟩ fr ops base iA iS mem mem1 mem2 j es Q) (h1 : memN iA (depsOf ops iS) = true := by rfl) (h2 : Nat.beq iA iS = false := by rfl) (ho : Obl ob := by repeat first | exact Obl.nil | refine Obl.same ?_ | refine Obl.imp (fun h => by simp_all) ?_) : COm ⟨Tryz.prog, n, S0, O0, w0, m0, Bs, ds⟩ fr ops base iA iS mem mem1 mem2 iS es Q :=
 oFill hs hj h1 h2 hc fun rest _ hg => toO (gv tabOk (h rest) (ofO hg) ho)
theorem oem (hi : sizeIs ops.toList i = true := by exact rfl) (hp : putK es base some = some sl := by exact rfl) (hc : GF ⟨Tryz.prog, n, S0, O0, w0, m0, Bs, ds⟩ fr (.leave .normal) Q ⟨sl, mem2⟩) (hA : Nat.blt iA ops.size = true := by rfl) (hS : Nat.blt iS ops.size = true := by rfl) (hn : nodupB (es.map (·.2.1)) = true := by rfl) (hb : base.all (fun x => !(es.map (·.2.1)).contains x.1) = true := by rfl) (hf : es.all (fun x => Nat.blt x.1 ops.size) = true := by rfl) : COm ⟨Tryz.prog, n, S0, O0, w0, m0, Bs, ds⟩ fr ops base iA iS mem mem1 mem2 i es Q := oEndM hi hp hA hS hc hn hb hf
theorem opp (p0 : Nat) {n : Nat} {S0 : Reg} {O0 : Owns} {w0 : World} {m0 Bs : List Nat} {ds : List Deferred} {fr : List Fr} {Q : Exit → GS → Prop} {id : Nat} {ops : Array Oper} {sl base : List (Nat × PV)} {mem : List (List PV)} {tt : List Nat} (hb : baseK ops.toList sl = some (tt, base) := by exact rfl) (hdep : ((List.range ops.size).all fun i => (depsOf ops i).all fun d => Nat.blt d i) = true := by kernel_rfl) (h1 : Nat.blt p0 ops.size = true := by rfl) (h2 : ((List.range ops.size).all fun j => !(Nat.blt p0 j) || (depsOf ops j).contains p0) = true := by kernel_rfl) (hc : COp ⟨Tryz.prog, n, S0, O0, w0, m0, Bs, ds⟩ fr ops base mem p0 0 [] Q) : GF ⟨Tryz.prog, n, S0, O0, w0, m0, Bs, ds⟩ fr (.code (.region id ops true)) Q ⟨sl, mem⟩ := gOpenP p0 hb mixed hdep h1 h2 hc
theorem ovp {p0 : Nat} (hs : see ops.toList i es base = some pre := by exact rfl) (hj : nth nums (i + 1) = some j := by exact rfl) (h : ∀ rest, E.step tab ops.toList n i ⟨pre ++ rest, mem⟩ = some (ob, ⟨(t, p) :: (pre ++ rest), mem⟩) := by exact fun _ => rfl) (hes : snocK es (i, t, p) some = some es' := by exact rfl) (hc : COp ⟨Tryz.prog, n, S0, O0, w0, m0, Bs, ds⟩ fr ops base mem p0 j es' Q) (ho : Obl ob := by repeat first | exact Obl.nil | refine Obl.same ?_ | refine Obl.imp (fun h => by simp_all) ?_) : COp ⟨Tryz.prog, n, S0, O0, w0, m0, Bs, ds⟩ fr ops base mem p0 i es Q :=
 oStepP hs hj hes hc fun rest _ hg => toO (gv tabOk (h rest) (ofO hg) ho)
end
section
variable {n i j t : Nat} {S0 : Reg} {O0 : Owns} {w0 : World} {m0 Bs : List Nat} {ds : List Deferred} {fr : List Fr} {Q : Exit → GS → Prop} {ops : Array Oper} {base pre : List (Nat × PV)} {mem : List (List PV)} {es es' : List (Nat × Nat × PV)} {ob : List (Bool × Bool)}
theorem oip {p0 m : Nat} {xs : List D} {ix : Int} {d : D} (hs : see ops.toList i es base = some pre := by exact rfl) (hj : nth nums (i + 1) = some j := by exact rfl) (h : ∀ rest, ixs tab ops.toList n i (pre ++ rest) = some (t, none, ob, xs, ix, m) := by exact fun _ => rfl) (hd : xs[ix.toNat]? = some d) (hes : snocK es (i, t, .d (.ptr d)) some = some es' := by exact rfl) (hc : COp ⟨Tryz.prog, n, S0, O0, w0, m0, Bs, ds⟩ fr ops base mem p0 j es' Q) (h0 : 0 ≤ ix := by omega) (hn : d.cells.length = m := by first | rfl | simp [D.cells]) (hm : 0 < m := by decide) (ho : Obl ob := by repeat first | exact Obl.nil | refine Obl.same ?_ | refine Obl.imp (fun h => by simp_all) ?_) : COp ⟨Tryz.prog, n, S0, O0, w0, m0, Bs, ds⟩ fr ops base mem p0 i es Q :=
 oStepP hs hj hes hc fun rest _ hg => gI d tabOk (h rest) (fun _ => ⟨h0, hd, hn⟩) hm ho hg
theorem opx {f : FuncId} {ds' : List D} {u : Value} (hs : see ops.toList i es base = some pre := by exact rfl) (h : ∀ rest, cls ops.toList n i (pre ++ rest) = some (t, none, ob, f, ds') := by exact fun _ => rfl) (hcl : Px Tryz.prog f ds' (.inr u)) (hg : ∀ s', GF ⟨Tryz.prog, n, S0, O0, w0, m0, Bs, ds⟩ fr (.leave (.panic (chain1 u))) Q s') (h1 : nodupB (es.map (·.2.1)) = true := by rfl) (h2 : base.all (fun x => !(es.map (·.2.1)).contains x.1) = true := by rfl) (h3 : es.all (fun x => Nat.blt x.1 ops.size) = true := by rfl) : COp ⟨Tryz.prog, n, S0, O0, w0, m0, Bs, ds⟩ fr ops base mem i i es Q := oPanic hs h hcl hg h1 h2 h3
theorem onl {k : Nat} {xs : List D} (hs : see ops.toList i es base = some pre := by exact rfl) (hj : nth nums (i + 1) = some j := by exact rfl) (h : ∀ rest, bss tab ops.toList n i (pre ++ rest) = some (t, k, xs) := by exact fun _ => rfl) (hes : snocK es (i, t, .osl k xs) some = some es' := by exact rfl) (hc : CO ⟨Tryz.prog, n, S0, O0, w0, m0, Bs, ds⟩ fr ops base mem j es' Q) (hk0 : 0 < k := by decide) (hk : ∀ d ∈ xs, d.cells.length = k := by simp [D.cells]) : CO ⟨Tryz.prog, n, S0, O0, w0, m0, Bs, ds⟩ fr ops base mem i es Q :=
 oStep hs hj hes hc fun rest _ hg => gB tabOk (h rest) hk0 hk hg
theorem oh (iS : Nat) (c2 : List PV) {n : Nat} {S0 : Reg} {O0 : Owns} {w0 : World} {m0 Bs : List Nat} {ds : List Deferred} {fr : List Fr} {Q : Exit → GS → Prop} {id : Nat} {ops : Array Oper} {sl base : List (Nat × PV)} {c1 : List PV} {tl : List (List PV)} {tt : List Nat} (hb : baseK ops.toList sl = some (tt, base) := by exact rfl) (hdep : ((List.range ops.size).all fun i => (depsOf ops i).all fun d => Nat.blt d i) = true := by kernel_rfl) (hc : COh ⟨Tryz.prog, n, S0, O0, w0, m0, Bs, ds⟩ fr ops base iS c1 c2 tl 0 [] Q) : GF ⟨Tryz.prog, n, S0, O0, w0, m0, Bs, ds⟩ fr (.code (.region id ops true)) Q ⟨sl, c1 :: tl⟩ := gOpenH iS hb mixed hdep hc
variable {iS : Nat} {c1 c2 : List PV} {tl : List (List PV)}
theorem ovh {p : PV} (hs : see ops.toList i es base = some pre := by exact rfl) (hj : nth nums (i + 1) = some j := by exact rfl) (h : ∀ rest X, E.step tab ops.toList n i ⟨pre ++ rest, X :: tl⟩ = some (ob, ⟨(t, p) :: (pre ++ rest), X :: tl⟩) := by exact fun _ _ => rfl) (hes : snocK es (i, t, p) some = some es' := by exact rfl) (hc : COh ⟨Tryz.prog, n, S0, O0, w0, m0, Bs, ds⟩ fr ops base iS c1 c2 tl j es' Q) (h2 : Nat.beq i iS = false := by rfl) (ho : Obl ob := by repeat first | exact Obl.nil | refine Obl.same ?_ | refine Obl.imp (fun h => by simp_all) ?_) : COh ⟨Tryz.prog, n, S0, O0, w0, m0, Bs, ds⟩ fr ops base iS c1 c2 tl i es Q :=
 oStepH hs hj hes h2 hc fun rest X _ hg => toO (gv tabOk (h rest X) (ofO hg) ho)
theorem och {f : FuncId} {ds' : List D} {r : PV} (hs : see ops.toList i es base = some pre := by exact rfl) (hj : nth nums (i + 1) = some j := by exact rfl) (h : ∀ rest, cls ops.toList n i (pre ++ rest) = some (t, none, ob, f, ds') := by exact fun _ => rfl) (hcl : Pf Tryz.prog f ds' r) (hes : snocK es (i, t, r) some = some es' := by exact rfl) (hc : COh ⟨Tryz.prog, n, S0, O0, w0, m0, Bs, ds⟩ fr ops base iS c1 c2 tl j es' Q) (h2 : Nat.beq i iS = false := by rfl) (ho : Obl ob := by repeat first | exact Obl.nil | refine Obl.same ?_ | refine Obl.imp (fun h => by simp_all) ?_) : COh ⟨Tryz.prog, n, S0, O0, w0, m0, Bs, ds⟩ fr ops base iS c1 c2 tl i es Q :=
 oStepH hs hj hes h2 hc fun rest X _ hg => gC (h rest) (fun _ => hcl) ho hg
theorem ofh {kt : TypeId} {ks : List D} {vs : List PV} {k : D} {p : PV} {kb : D → Bool} (C : KC Tryz.prog kt kb) (hks : ks.all kb = true) (hk : kb k = true) (hl : vs.length = ks.length) (hmem : mpc (putKs ks k) (putVs ks k vs p) = c2) (hs : see ops.toList iS es base = some pre := by exact rfl) (hj : nth nums (iS + 1) = some j := by exact rfl) (h : ∀ rest, mus tab ops.toList iS (pre ++ rest) = some (0, kt, k, p) := by exact fun _ => rfl) (hc : COh ⟨Tryz.prog, n, S0, O0, w0, m0, Bs, ds⟩ fr ops base iS (mpc ks vs) c2 tl j es Q) (hno : p.noown = true := by rfl) : COh ⟨Tryz.prog, n, S0, O0, w0, m0, Bs, ds⟩ fr ops base iS (mpc ks vs) c2 tl iS es Q :=
 oFillH hs hj hc fun rest _ hg => gMu tabOk (h rest) rfl C.law hl (fun k hk => (C.ok k (List.all_eq_true.1 hks k hk)).2) (fun k hk => (C.ok k (List.all_eq_true.1 hks k hk)).1) (C.ok k hk).1 hno (congrArg (fun c => c :: tl) hmem) hg
theorem oeh {sl : List (Nat × PV)} (hi : sizeIs ops.toList i = true := by exact rfl) (hp : putK es base some = some sl := by exact rfl) (hc : GF ⟨Tryz.prog, n, S0, O0, w0, m0, Bs, ds⟩ fr (.leave .normal) Q ⟨sl, c2 :: tl⟩) (hS : Nat.blt iS ops.size = true := by rfl) (hn : nodupB (es.map (·.2.1)) = true := by rfl) (hb : base.all (fun x => !(es.map (·.2.1)).contains x.1) = true := by rfl) (hf : es.all (fun x => Nat.blt x.1 ops.size) = true := by rfl) : COh ⟨Tryz.prog, n, S0, O0, w0, m0, Bs, ds⟩ fr ops base iS c1 c2 tl i es Q := oEndH hi hp hS hc hn hb hf
theorem cs (sel : List Nat) {n : Nat} {S0 : Reg} {O0 : Owns} {w0 : World} {m0 Bs : List Nat} {ds : List Deferred} {fr : List Fr} {Q : Exit → GS → Prop} {ops : Array Oper} {i : Nat} {l : List Nat} {sl : List (Nat × PV)} {mem : List (List PV)} {t : Nat} {f : FuncId} {args args0 : List PV} {mem0 mem1 mem' : List (List PV)} {r r' : PV} (h : cms ops.toList n i sl = some (t, f, args)) (hc : Gm Tryz.prog f args0 mem0 r mem1) (hg : GF ⟨Tryz.prog, n, S0, O0, w0, m0, Bs, ds⟩ fr (.ops ops l) Q ⟨(t, r') :: sl, mem'⟩) (hargs : args = PV.rens (fun b => sel.getD b 0) args0 := by rfl) (hnd : sel.Nodup := by decide) (hsel : ∀ b ∈ sel, b < mem.length := by simp)
 (hmem : sel.map (fun b => mem.getD b []) = mem0.map (PV.rens (fun b => sel.getD b 0)) := by rfl) (hra : PV.refsBs sel.length args0 = true := by rfl) (hrm : mem0.all (PV.refsBs sel.length) = true := by rfl) (hl : mem1.length = sel.length := by rfl) (hr : r.ren (fun b => sel.getD b 0) = r' := by rfl) (hm : setAll mem sel (mem1.map (PV.rens (fun b => sel.getD b 0))) = mem' := by rfl) : GF ⟨Tryz.prog, n, S0, O0, w0, m0, Bs, ds⟩ fr (.ops ops (i :: l)) Q ⟨sl, mem⟩ := gMs sel h hc hargs hnd hsel hmem hra hrm hl hr hm hg
theorem xs (sel : List Nat) {n : Nat} {S0 : Reg} {O0 : Owns} {w0 : World} {m0 Bs : List Nat} {ds : List Deferred} {fr : List Fr} {Q : Exit → GS → Prop} {ops : Array Oper} {i : Nat} {l : List Nat} {sl : List (Nat × PV)} {mem : List (List PV)} {t : Nat} {f : FuncId} {args args0 : List PV} {mem0 mem1 mem' : List (List PV)} {r r' : PV} (h : cms ops.toList n i sl = some (t, f, args)) (hc : Xm Tryz.prog f args0 mem0 (.inl r) mem1) (hg : GF ⟨Tryz.prog, n, S0, O0, w0, m0, Bs, ds⟩ fr (.ops ops l) Q ⟨(t, r') :: sl, mem'⟩) (hargs : args = PV.rens (fun b => sel.getD b 0) args0 := by rfl) (hnd : sel.Nodup := by decide) (hsel : ∀ b ∈ sel, b < mem.length := by simp)
 (hmem : sel.map (fun b => mem.getD b []) = mem0.map (PV.rens (fun b => sel.getD b 0)) := by rfl) (hra : PV.refsBs sel.length args0 = true := by rfl) (hrm : mem0.all (PV.refsBs sel.length) = true := by rfl) (hl : mem1.length = sel.length := by rfl) (hr : r.ren (fun b => sel.getD b 0) = r' := by rfl) (hm : setAll mem sel (mem1.map (PV.rens (fun b => sel.getD b 0))) = mem' := by rfl) : GF ⟨Tryz.prog, n, S0, O0, w0, m0, Bs, ds⟩ fr (.ops ops (i :: l)) Q ⟨sl, mem⟩ := gXs sel h hc hargs hnd hsel hmem hra hrm hl hr hm hg
theorem ar (r : Nat) {K : Ctx} {fr : List Fr} {ops : Array Oper} {b : Bool} {y : Code} {Q : Exit → GS → Prop} {s : GS} (h : GF K fr (.code (.seq (.region r ops b) y)) Q s) : GF K fr (.code (.seq (.region r ops b) y)) Q s := h
end
section
def pairB : D → Bool
 | .agg [.str a, .str b] => Nat.ble a.size 140737488355328 && Nat.ble b.size 140737488355328
 | _ => false
theorem laid : laidOutB Tryz.prog = true := by kernel_rfl
theorem C9 : KC Tryz.prog 9 strB := strKC u9
theorem C225 : KC Tryz.prog 225 pairB where
 law := deep_law_laid laid (m := 2) (by decide) (oR (by kernel_rfl)) (by kernel_rfl) (by kernel_rfl)
 ok k hk := by
  unfold pairB at hk
  split at hk
  · rename_i a b
    rw [Bool.and_eq_true] at hk
    have ha := Nat.le_of_ble_eq_true hk.1
    have hb := Nat.le_of_ble_eq_true hk.2
    suffices h : ∃ l, keyOf Tryz.prog 225 (.agg #[.string a, .string b]) = some l by
     obtain ⟨l, hl⟩ := h
     exact ⟨⟨_, l, rfl, hl⟩, by intro h; cases h⟩
    have h9 : ∀ (d : Nat) (s : ByteArray), s.size ≤ 140737488355328 → Tryz.prog.keyLits (d + 1) 9 [.string s] = some [.string s.data.toList] := fun d s hs => by
     have h1 : s.size ≤ maxLen := Nat.le_trans hs (by decide)
     simp only [Program.keyLits, u9, if_pos h1]
    have hsz : Tryz.prog.types.size = (Tryz.prog.types.size - 1) + 1 := by kernel_rfl
    have hc9 : Tryz.prog.cellsOf 9 = 1 := by kernel_rfl
    have hc : Tryz.prog.cellsOf 225 = 2 := by kernel_rfl
    unfold keyOf
    rw [u225]
    dsimp only
    rw [if_pos (by kernel_rfl), hsz]
    unfold Program.keyLits
    rw [u225]
    refine ⟨.string (keyBytes [.string a.data.toList, .string b.data.toList]), ?_⟩
    show Option.map (fun ls => Lit.string (keyBytes ls)) (if [Value.string a, Value.string b].length = Tryz.prog.cellsOf 225 then Option.map List.flatten (List.mapM (fun i => Tryz.prog.keyLits (Tryz.prog.types.size - 1 + 1) 9 (List.take (Tryz.prog.cellsOf 9) (List.drop (i * Tryz.prog.cellsOf 9) [Value.string a, Value.string b]))) (List.range 2)) else none) = _
    rw [hc, hc9]
    simp [List.range, List.range.loop, h9 _ _ ha, h9 _ _ hb]
  · cases hk
end
end Go.Proofs.YtklkbfpjimeaoaaGreat
