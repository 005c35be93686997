import Derived.Test.YtklkbfpjimeaoaaGreatProg
import Derived.KernelRfl
import Derived.Test.YtklkbfpjimeaoaaGreatM16
import Derived.Test.YtklkbfpjimeaoaaGreatM24
/- Contracts of functions. Conditions: none. -/
set_option linter.unusedSimpArgs false
set_option linter.unusedVariables false
namespace Go.Proofs.YtklkbfpjimeaoaaGreat
open Go Go.Proofs.YtklkbfpjimeaoaaGreat.E
section
def tab : List (Nat × TI) := [(2, ⟨true, 1, [.int .i64], (.int .i64)⟩),
 (3, ⟨true, 1, [.int .i64], (.int .i64)⟩),
 (4, ⟨true, 1, [.bool], .bool⟩),
 (5, ⟨true, 1, [.int .u8], (.int .u8)⟩),
 (6, ⟨true, 1, [.int .u8], (.int .u8)⟩),
 (7, ⟨false, 4, [.int .i64, .int .i64, .bool, .int .u8], (.struct [(0, 1, true), (1, 1, true), (2, 1, true), (3, 1, true)])⟩),
 (8, ⟨false, 4, [.int .i64, .int .i64, .bool, .int .u8], (.struct [(0, 1, true), (1, 1, true), (2, 1, true), (3, 1, true)])⟩),
 (9, ⟨true, 1, [.str], .str⟩),
 (10, ⟨true, 1, [.str], .str⟩),
 (11, ⟨true, 1, [.str], .str⟩),
 (12, ⟨true, 1, [.int .u64], (.int .u64)⟩),
 (13, ⟨false, 2, [.str, .int .u64], (.struct [(0, 1, true), (1, 1, true)])⟩),
 (14, ⟨false, 2, [.str, .int .u64], (.struct [(0, 1, true), (1, 1, true)])⟩),
 (15, ⟨true, 1, [.ptr], .ptr⟩),
 (16, ⟨true, 1, [.ptr], .ptr⟩),
 (17, ⟨true, 1, [.ptr], .ptr⟩),
 (18, ⟨false, 1, [.ptr], (.struct [(0, 1, true)])⟩),
 (19, ⟨false, 1, [.ptr], (.struct [(0, 1, true)])⟩),
 (20, ⟨true, 1, [.ifc], .other⟩),
 (21, ⟨true, 1, [.int .i32], (.int .i32)⟩),
 (22, ⟨true, 1, [.sl], (.slice 27 4 56 [.int .i64, .str, .int .i64, .sl])⟩),
 (23, ⟨true, 1, [.sl], (.slice 81 10 152 [.str, .bool, .bool, .sl, .int .i64, .str, .int .i64, .sl, .sl, .sl])⟩),
 (24, ⟨false, 2, [.sl, .sl], (.struct [(0, 1, true), (1, 1, true)])⟩),
 (25, ⟨false, 2, [.sl, .sl], (.struct [(0, 1, true), (1, 1, true)])⟩),
 (26, ⟨false, 4, [.int .i64, .str, .int .i64, .sl], (.struct [(0, 1, true), (1, 1, true), (2, 1, true), (3, 1, true)])⟩),
 (27, ⟨false, 4, [.int .i64, .str, .int .i64, .sl], (.struct [(0, 1, true), (1, 1, true), (2, 1, true), (3, 1, true)])⟩),
 (28, ⟨true, 1, [.sl], (.slice 106 3 40 [.str, .str, .bool])⟩),
 (33, ⟨true, 1, [.int .i64], (.int .i64)⟩),
 (36, ⟨true, 1, [.sl], (.slice 108 3 40 [.str, .str, .bool])⟩),
 (49, ⟨true, 1, [.sl], (.slice 59 5 72 [.str, .int .i64, .str, .int .i64, .sl])⟩),
 (51, ⟨true, 1, [.sl], (.slice 66 5 72 [.str, .int .i64, .str, .int .i64, .sl])⟩),
 (58, ⟨false, 5, [.str, .int .i64, .str, .int .i64, .sl], (.struct [(0, 1, true), (1, 4, false)])⟩),
 (59, ⟨false, 5, [.str, .int .i64, .str, .int .i64, .sl], (.struct [(0, 1, true), (1, 4, false)])⟩),
 (63, ⟨true, 1, [.sl], (.slice 9 1 16 [.str])⟩),
 (66, ⟨false, 5, [.str, .int .i64, .str, .int .i64, .sl], (.struct [(0, 1, true), (1, 4, false)])⟩),
 (73, ⟨true, 1, [.sl], (.slice 3 1 8 [.int .i64])⟩),
 (74, ⟨false, 2, [.int .i64, .sl], (.struct [(0, 1, true), (1, 1, true)])⟩),
 (75, ⟨false, 2, [.int .i64, .sl], (.struct [(0, 1, true), (1, 1, true)])⟩),
 (79, ⟨true, 1, [.sl], (.slice 102 6 88 [.str, .str, .int .i64, .str, .int .i64, .sl])⟩),
 (80, ⟨false, 10, [.str, .bool, .bool, .sl, .int .i64, .str, .int .i64, .sl, .sl, .sl], (.struct [(0, 1, true), (1, 1, true), (2, 1, true), (3, 1, true), (4, 4, false), (8, 1, true), (9, 1, true)])⟩),
 (81, ⟨false, 10, [.str, .bool, .bool, .sl, .int .i64, .str, .int .i64, .sl, .sl, .sl], (.struct [(0, 1, true), (1, 1, true), (2, 1, true), (3, 1, true), (4, 4, false), (8, 1, true), (9, 1, true)])⟩),
 (87, ⟨false, 2, [.int .i64, .sl], (.struct [(0, 1, true), (1, 1, true)])⟩),
 (101, ⟨false, 6, [.str, .str, .int .i64, .str, .int .i64, .sl], (.struct [(0, 1, true), (1, 1, true), (2, 4, false)])⟩),
 (102, ⟨false, 6, [.str, .str, .int .i64, .str, .int .i64, .sl], (.struct [(0, 1, true), (1, 1, true), (2, 4, false)])⟩),
 (105, ⟨false, 3, [.str, .str, .bool], (.struct [(0, 1, true), (1, 1, true), (2, 1, true)])⟩),
 (106, ⟨false, 3, [.str, .str, .bool], (.struct [(0, 1, true), (1, 1, true), (2, 1, true)])⟩),
 (108, ⟨false, 3, [.str, .str, .bool], (.struct [(0, 1, true), (1, 1, true), (2, 1, true)])⟩),
 (110, ⟨true, 1, [.map], (.map 9 108)⟩),
 (111, ⟨true, 1, [.ptr], .ptr⟩),
 (112, ⟨false, 4, [.sl, .sl, .map, .ptr], (.struct [(0, 2, false), (2, 1, true), (3, 1, true)])⟩),
 (113, ⟨false, 4, [.sl, .sl, .map, .ptr], (.struct [(0, 2, false), (2, 1, true), (3, 1, true)])⟩),
 (115, ⟨false, 2, [.int .i64, .sl], (.struct [(0, 1, true), (1, 1, true)])⟩),
 (116, ⟨false, 2, [.int .i64, .sl], (.struct [(0, 1, true), (1, 1, true)])⟩),
 (119, ⟨false, 6, [.str, .str, .bool, .ptr, .int .i64, .int .i64], (.struct [(0, 3, false), (3, 1, true), (4, 1, true), (5, 1, true)])⟩),
 (120, ⟨false, 6, [.str, .str, .bool, .ptr, .int .i64, .int .i64], (.struct [(0, 3, false), (3, 1, true), (4, 1, true), (5, 1, true)])⟩),
 (124, ⟨false, 4, [.sl, .sl, .sl, .sl], (.struct [(0, 2, false), (2, 1, true), (3, 1, true)])⟩),
 (125, ⟨false, 4, [.sl, .sl, .sl, .sl], (.struct [(0, 2, false), (2, 1, true), (3, 1, true)])⟩),
 (127, ⟨true, 1, [.map], (.map 3 189)⟩),
 (139, ⟨true, 1, [.ptr], .ptr⟩),
 (141, ⟨true, 1, [.ptr], .ptr⟩),
 (149, ⟨true, 1, [.ptr], .ptr⟩),
 (152, ⟨true, 1, [.ptr], .ptr⟩),
 (153, ⟨false, 20, [.sl, .sl, .map, .ptr, .str, .bool, .bool, .sl, .int .i64, .str, .int .i64, .sl, .sl, .sl, .sl, .int .i64, .ptr, .int .i64, .bool, .sl], (.struct [(0, 4, false), (4, 10, false), (14, 1, true), (15, 1, true), (16, 1, true), (17, 1, true), (18, 1, true), (19, 1, true)])⟩),
 (154, ⟨false, 20, [.sl, .sl, .map, .ptr, .str, .bool, .bool, .sl, .int .i64, .str, .int .i64, .sl, .sl, .sl, .sl, .int .i64, .ptr, .int .i64, .bool, .sl], (.struct [(0, 4, false), (4, 10, false), (14, 1, true), (15, 1, true), (16, 1, true), (17, 1, true), (18, 1, true), (19, 1, true)])⟩),
 (165, ⟨false, 20, [.sl, .sl, .sl, .sl, .str, .bool, .bool, .sl, .int .i64, .str, .int .i64, .sl, .sl, .sl, .bool, .bool, .sl, .int .i64, .sl, .int .i64], (.struct [(0, 4, false), (4, 10, false), (14, 1, true), (15, 1, true), (16, 1, true), (17, 1, true), (18, 1, true), (19, 1, true)])⟩),
 (166, ⟨false, 20, [.sl, .sl, .sl, .sl, .str, .bool, .bool, .sl, .int .i64, .str, .int .i64, .sl, .sl, .sl, .bool, .bool, .sl, .int .i64, .sl, .int .i64], (.struct [(0, 4, false), (4, 10, false), (14, 1, true), (15, 1, true), (16, 1, true), (17, 1, true), (18, 1, true), (19, 1, true)])⟩),
 (167, ⟨false, 3, [.str, .ptr, .ptr], (.struct [(0, 1, true), (1, 1, true), (2, 1, true)])⟩),
 (168, ⟨false, 3, [.str, .ptr, .ptr], (.struct [(0, 1, true), (1, 1, true), (2, 1, true)])⟩),
 (188, ⟨false, 3, [.sl, .bool, .fn], (.struct [(0, 1, true), (1, 1, true), (2, 1, true)])⟩),
 (189, ⟨false, 3, [.sl, .bool, .fn], (.struct [(0, 1, true), (1, 1, true), (2, 1, true)])⟩),
 (198, ⟨false, 3, [.int .i64, .int .i64, .int .i64], (.struct [(0, 1, true), (1, 1, true), (2, 1, true)])⟩),
 (199, ⟨false, 3, [.int .i64, .int .i64, .int .i64], (.struct [(0, 1, true), (1, 1, true), (2, 1, true)])⟩),
 (222, ⟨true, 1, [.map], (.map 9 9)⟩),
 (223, ⟨true, 1, [.map], (.map 225 222)⟩),
 (225, ⟨false, 2, [.str, .str], (.array 2 1)⟩),
 (227, ⟨false, 3, [.str, .str, .str], (.array 3 1)⟩),
 (228, ⟨false, 4, [.str, .str, .str, .str], (.array 4 1)⟩),
 (230, ⟨false, 3, [.str, .str, .int .i64], (.struct [(0, 1, true), (1, 1, true), (2, 1, true)])⟩),
 (231, ⟨false, 3, [.str, .str, .int .i64], (.struct [(0, 1, true), (1, 1, true), (2, 1, true)])⟩),
 (232, ⟨true, 1, [.map], (.map 9 231)⟩),
 (243, ⟨true, 1, [.sl], (.slice 5 1 1 [.int .u8])⟩),
 (249, ⟨true, 1, [.map], (.map 9 247)⟩),
 (253, ⟨true, 1, [.map], (.map 9 251)⟩),
 (259, ⟨false, 3, [.int .i64, .int .i64, .int .i64], (.struct [(0, 1, true), (1, 1, true), (2, 1, true)])⟩),
 (260, ⟨false, 3, [.int .i64, .int .i64, .int .i64], (.struct [(0, 1, true), (1, 1, true), (2, 1, true)])⟩),
 (286, ⟨true, 1, [.int .u64], (.int .u64)⟩),
 (304, ⟨false, 4, [.ptr, .ptr, .ptr, .str], (.struct [(0, 1, true), (1, 1, true), (2, 1, true), (3, 1, true)])⟩),
 (305, ⟨false, 4, [.ptr, .ptr, .ptr, .str], (.struct [(0, 1, true), (1, 1, true), (2, 1, true), (3, 1, true)])⟩),
 (306, ⟨false, 0, [], (.array 0 1)⟩),
 (307, ⟨false, 0, [], (.struct [(0, 0, false)])⟩),
 (308, ⟨false, 0, [], (.struct [(0, 0, false)])⟩),
 (309, ⟨true, 1, [.int .u32], (.int .u32)⟩),
 (310, ⟨true, 1, [.int .u8], (.int .u8)⟩),
 (311, ⟨true, 1, [.int .u8], (.int .u8)⟩),
 (313, ⟨true, 1, [.ptr], .ptr⟩),
 (314, ⟨true, 1, [.int .i32], (.int .i32)⟩),
 (315, ⟨true, 1, [.int .i32], (.int .i32)⟩),
 (316, ⟨false, 11, [.int .u64, .int .u64, .int .u32, .int .u8, .int .u8, .int .u8, .int .u8, .fn, .ptr, .int .i32, .int .i32], (.struct [(0, 1, true), (1, 1, true), (2, 1, true), (3, 1, true), (4, 1, true), (5, 1, true), (6, 1, true), (7, 1, true), (8, 1, true), (9, 1, true), (10, 1, true)])⟩),
 (317, ⟨false, 11, [.int .u64, .int .u64, .int .u32, .int .u8, .int .u8, .int .u8, .int .u8, .fn, .ptr, .int .i32, .int .i32], (.struct [(0, 1, true), (1, 1, true), (2, 1, true), (3, 1, true), (4, 1, true), (5, 1, true), (6, 1, true), (7, 1, true), (8, 1, true), (9, 1, true), (10, 1, true)])⟩)]
theorem tabOk : tabB Tryz.prog tab = true := by kernel_rfl
variable {n : Nat} {S0 : Reg} {O0 : Owns} {w0 : World} {m0 Bs : List Nat} {ds : List Deferred} {fr : List Fr} {Q : Exit → GS → Prop} {s : GS} {ob : List (Bool × Bool)}
theorem st {fr' : List Fr} {c c' : Cf} {s' : GS} (h : adv tab n fr c s = some (ob, fr', c', s')) (hg : GF ⟨Tryz.prog, n, S0, O0, w0, m0, Bs, ds⟩ fr' c' Q s') (ho : Obl ob := by repeat first | exact Obl.nil | refine Obl.same ?_ | refine Obl.imp (fun h => by simp_all) ?_) : GF ⟨Tryz.prog, n, S0, O0, w0, m0, Bs, ds⟩ fr c Q s := adv_of tabOk h hg ho
variable {c : Operand} {x y : Code} {b : Bool}
theorem cd (hc : evl s.slots c = .d (.bool b)) (hx : b = true → GF ⟨Tryz.prog, n, S0, O0, w0, m0, Bs, ds⟩ fr (.code x) Q s) (hy : b = false → GF ⟨Tryz.prog, n, S0, O0, w0, m0, Bs, ds⟩ fr (.code y) Q s) : GF ⟨Tryz.prog, n, S0, O0, w0, m0, Bs, ds⟩ fr (.code (.cond c x y)) Q s := gcd hc hx hy
variable {ops : Array Oper} {i t : Nat} {l : List Nat} {sl : List (Nat × PV)} {mem : List (List PV)}
theorem el {m : Nat} {xs : List D} {j : Int} {d : D} (h : ixs tab ops.toList n i sl = some (t, none, ob, xs, j, m)) (hd : xs[j.toNat]? = some d) (hg : GF ⟨Tryz.prog, n, S0, O0, w0, m0, Bs, ds⟩ fr (.ops ops l) Q ⟨(t, .d (.ptr d)) :: sl, mem⟩) (h0 : 0 ≤ j := by omega) (hn : d.cells.length = m := by first | rfl | simp [D.cells]) (hm : 0 < m := by decide) (ho : Obl ob := by repeat first | exact Obl.nil | refine Obl.same ?_ | refine Obl.imp (fun h => by simp_all) ?_) : GF ⟨Tryz.prog, n, S0, O0, w0, m0, Bs, ds⟩ fr (.ops ops (i :: l)) Q ⟨sl, mem⟩ := gI d tabOk h (fun _ => ⟨h0, hd, hn⟩) hm ho hg
variable {f : FuncId} {r : PV}
theorem cl {ds' : List D} (h : cls ops.toList n i sl = some (t, none, ob, f, ds')) (hc : Pf Tryz.prog f ds' r) (hg : GF ⟨Tryz.prog, n, S0, O0, w0, m0, Bs, ds⟩ fr (.ops ops l) Q ⟨(t, r) :: sl, mem⟩) (ho : Obl ob := by repeat first | exact Obl.nil | refine Obl.same ?_ | refine Obl.imp (fun h => by simp_all) ?_) : GF ⟨Tryz.prog, n, S0, O0, w0, m0, Bs, ds⟩ fr (.ops ops (i :: l)) Q ⟨sl, mem⟩ := gC h (fun _ => hc) ho hg
variable {g : Bool}
theorem clg {ds' : List D} (h : cls ops.toList n i sl = some (t, some g, ob, f, ds')) (hc : g = true → Pf Tryz.prog f ds' r) (hg : GF ⟨Tryz.prog, n, S0, O0, w0, m0, Bs, ds⟩ fr (.ops ops l) Q ⟨(t, .when g r) :: sl, mem⟩) (ho : Obl ob := by repeat first | exact Obl.nil | refine Obl.same ?_ | refine Obl.imp (fun h => by simp_all) ?_) : GF ⟨Tryz.prog, n, S0, O0, w0, m0, Bs, ds⟩ fr (.ops ops (i :: l)) Q ⟨sl, mem⟩ := gC h hc ho hg
variable {p : PV}
theorem qu {C : Prop} (h : qcs tab ops.toList n i sl = some (t, none, ob, C, p)) (hc : C) (hg : GF ⟨Tryz.prog, n, S0, O0, w0, m0, Bs, ds⟩ fr (.ops ops l) Q ⟨(t, p) :: sl, mem⟩) (ho : Obl ob := by repeat first | exact Obl.nil | refine Obl.same ?_ | refine Obl.imp (fun h => by simp_all) ?_) : GF ⟨Tryz.prog, n, S0, O0, w0, m0, Bs, ds⟩ fr (.ops ops (i :: l)) Q ⟨sl, mem⟩ := gQ tabOk h (fun _ => hc) ho hg
variable {k : Nat}
theorem ap {u b : Nat} {xs ys : List D} (h : aps tab ops.toList n i sl = some (t, u, k, b, xs, ys)) (hg : GF ⟨Tryz.prog, n, S0, O0, w0, m0, Bs, ds⟩ fr (.ops ops l) Q ⟨(t, .osl k (xs ++ ys)) :: (u, .d (.sl xs)) :: sl, mem⟩) (hk0 : 0 < k := by decide) (hne : ys ≠ [] := by simp) (hk : ∀ y ∈ ys, y.cells.length = k := by simp [D.cells]) (hl : xs.length + ys.length ≤ lim := by simp only [lim, List.length_cons, List.length_nil, List.length_append, List.length_map]; omega) (hB : (xs.length + ys.length) * b ≤ lim := by simp only [lim, List.length_cons, List.length_nil, List.length_append, List.length_map]; omega) : GF ⟨Tryz.prog, n, S0, O0, w0, m0, Bs, ds⟩ fr (.ops ops (i :: l)) Q ⟨sl, mem⟩ := gA tabOk h hk0 hne hk hl hB hg
theorem bs {xs : List D} (h : bss tab ops.toList n i sl = some (t, k, xs)) (hg : GF ⟨Tryz.prog, n, S0, O0, w0, m0, Bs, ds⟩ fr (.ops ops l) Q ⟨(t, .osl k xs) :: sl, mem⟩) (hk0 : 0 < k := by decide) (hk : ∀ d ∈ xs, d.cells.length = k := by simp [D.cells]) : GF ⟨Tryz.prog, n, S0, O0, w0, m0, Bs, ds⟩ fr (.ops ops (i :: l)) Q ⟨sl, mem⟩ := gB tabOk h hk0 hk hg
theorem fz (isAgg : Bool) {n : Nat} {S0 : Reg} {O0 : Owns} {w0 : World} {m0 Bs : List Nat} {ds : List Deferred} {fr : List Fr} {Q : Exit → GS → Prop} {c : Cf} {s s' : GS} {k : Nat} {d : D} (h : frs isAgg s = some (k, d, s')) (hg : GF ⟨Tryz.prog, n, S0, O0, w0, m0, Bs, ds⟩ fr c Q s') (hk : m0.length ≤ k := by first | (dsimp only [List.length_cons, List.length_nil]; omega) | simp_all) (hrf : s'.mem.all (PV.refsBs k) = true := by rfl) (hc : goes c = true := by rfl) : GF ⟨Tryz.prog, n, S0, O0, w0, m0, Bs, ds⟩ fr c Q s := gFz isAgg h hk hrf hc hg
variable {K : Ctx} {rvs : List ResultVar} {e : Exit} {q : PV}
theorem en (h : E.endK tab sl mem rvs e = some q) (hr : q = r) (hb : PV.refsB 0 q = true := by rfl) : GF K [] (.leave e) (Fin Tryz.prog rvs 0 (fun q m => q = r ∧ m = [])) ⟨sl, mem⟩ := gEnd tabOk h hb hr
theorem mixed : Tryz.prog.follows .mixedOrders = true := by kernel_rfl
variable {base : List (Nat × PV)}
theorem oo {id : Nat} {tt : List Nat} (hb : baseK ops.toList sl = some (tt, base) := by exact rfl) (hdep : ((List.range ops.size).all fun i => (depsOf ops i).all fun d => Nat.blt d i) = true := by kernel_rfl) (hc : CO ⟨Tryz.prog, n, S0, O0, w0, m0, Bs, ds⟩ fr ops base mem 0 [] Q) : GF ⟨Tryz.prog, n, S0, O0, w0, m0, Bs, ds⟩ fr (.code (.region id ops true)) Q ⟨sl, mem⟩ := gOpen hb mixed hdep hc
variable {pre : List (Nat × PV)} {j : Nat} {es es' : List (Nat × Nat × PV)}
theorem ov (hs : see ops.toList i es base = some pre := by exact rfl) (hj : nth nums (i + 1) = some j := by exact rfl) (h : ∀ rest, E.step tab ops.toList n i ⟨pre ++ rest, mem⟩ = some (ob, ⟨(t, p) :: (pre ++ rest), mem⟩) := by exact fun _ => rfl) (hes : snocK es (i, t, p) some = some es' := by exact rfl) (hc : CO ⟨Tryz.prog, n, S0, O0, w0, m0, Bs, ds⟩ fr ops base mem j es' Q) (ho : Obl ob := by repeat first | exact Obl.nil | refine Obl.same ?_ | refine Obl.imp (fun h => by simp_all) ?_) : CO ⟨Tryz.prog, n, S0, O0, w0, m0, Bs, ds⟩ fr ops base mem i es Q := oV tabOk hs hj h hes hc ho
theorem oc {ds' : List D} (hs : see ops.toList i es base = some pre := by exact rfl) (hj : nth nums (i + 1) = some j := by exact rfl) (h : ∀ rest, cls ops.toList n i (pre ++ rest) = some (t, none, ob, f, ds') := by exact fun _ => rfl) (hcl : Pf Tryz.prog f ds' r) (hes : snocK es (i, t, r) some = some es' := by exact rfl) (hc : CO ⟨Tryz.prog, n, S0, O0, w0, m0, Bs, ds⟩ fr ops base mem j es' Q) (ho : Obl ob := by repeat first | exact Obl.nil | refine Obl.same ?_ | refine Obl.imp (fun h => by simp_all) ?_) : CO ⟨Tryz.prog, n, S0, O0, w0, m0, Bs, ds⟩ fr ops base mem i es Q := oC (g := none) hs hj h (fun _ => hcl) hes hc ho
theorem ocg {ds' : List D} (hs : see ops.toList i es base = some pre := by exact rfl) (hj : nth nums (i + 1) = some j := by exact rfl) (h : ∀ rest, cls ops.toList n i (pre ++ rest) = some (t, some g, ob, f, ds') := by exact fun _ => rfl) (hcl : g = true → Pf Tryz.prog f ds' r) (hes : snocK es (i, t, .when g r) some = some es' := by exact rfl) (hc : CO ⟨Tryz.prog, n, S0, O0, w0, m0, Bs, ds⟩ fr ops base mem j es' Q) (ho : Obl ob := by repeat first | exact Obl.nil | refine Obl.same ?_ | refine Obl.imp (fun h => by simp_all) ?_) : CO ⟨Tryz.prog, n, S0, O0, w0, m0, Bs, ds⟩ fr ops base mem i es Q := oC (g := some g) hs hj h hcl hes hc ho
theorem oe (hi : sizeIs ops.toList i = true := by exact rfl) (hp : putK es base some = some sl := by exact rfl) (hc : GF ⟨Tryz.prog, n, S0, O0, w0, m0, Bs, ds⟩ fr (.leave .normal) Q ⟨sl, mem⟩) (hn : nodupB (es.map (·.2.1)) = true := by rfl) (hb : base.all (fun x => !(es.map (·.2.1)).contains x.1) = true := by rfl) (hf : es.all (fun x => Nat.blt x.1 ops.size) = true := by rfl) : CO ⟨Tryz.prog, n, S0, O0, w0, m0, Bs, ds⟩ fr ops base mem i es Q := oEnd hi hp hc hn hb hf
theorem clp {ds' : List D} {u : Value} (h : cls ops.toList n i sl = some (t, none, ob, f, ds')) (hc : Px Tryz.prog f ds' (.inr u)) (hg : GF ⟨Tryz.prog, n, S0, O0, w0, m0, Bs, ds⟩ fr (.leave (.panic (chain1 u))) Q ⟨sl, mem⟩) : GF ⟨Tryz.prog, n, S0, O0, w0, m0, Bs, ds⟩ fr (.ops ops (i :: l)) Q ⟨sl, mem⟩ := gCP h hc hg
theorem enx {out : PV ⊕ Value} {RX : Value → List (List PV) → Prop} (h : E.endK tab sl mem rvs e = some q) (hr : out = .inl q) (hb : PV.refsB 0 q = true := by rfl) : GF K [] (.leave e) (FinX Tryz.prog rvs 0 (fun q m => out = .inl q ∧ m = []) RX) ⟨sl, mem⟩ := gEndX tabOk h hb hr
variable {kt : TypeId} {mem' : List (List PV)}
theorem mu {b : Nat} {ks : List D} {vs : List PV} {k : D} {kb : D → Bool} (C : KC Tryz.prog kt kb) (h : mus tab ops.toList i sl = some (b, kt, k, p) := by exact rfl) (hm : nth mem b = some (mpc ks vs) := by exact rfl) (hmem : putMK mem b ks vs k p = some mem' := by exact rfl) (hg : GF ⟨Tryz.prog, n, S0, O0, w0, m0, Bs, ds⟩ fr (.ops ops l) Q ⟨sl, mem'⟩) (hl : vs.length = ks.length := by rfl) (hks : ks.all kb = true := by rfl) (hk : kb k = true := by rfl) (hno : p.noown = true := by rfl) : GF ⟨Tryz.prog, n, S0, O0, w0, m0, Bs, ds⟩ fr (.ops ops (i :: l)) Q ⟨sl, mem⟩ := gMuC tabOk h hm C hl hks hk hno hmem hg
variable {ok : Bool} {et : TypeId} {zp : PV}
theorem lo {b : Nat} {k : D} {ks : List D} {vs : List PV} {kb : D → Bool} (C : KC Tryz.prog kt kb) (h : lks tab ops.toList n i sl = some (t, ok, .mref b, kt, et, k) := by exact rfl) (hz : zvT tab et = some zp := by exact rfl) (hm : nth mem b = some (mpc ks vs) := by exact rfl) (hr : lkK ok k zp ks vs = some r := by exact rfl) (hg : GF ⟨Tryz.prog, n, S0, O0, w0, m0, Bs, ds⟩ fr (.ops ops l) Q ⟨(t, r) :: sl, mem⟩) (hl : vs.length = ks.length := by rfl) (hks : ks.all kb = true := by rfl) (hk : kb k = true := by rfl) (hno : PV.noowns vs = true := by rfl) : GF ⟨Tryz.prog, n, S0, O0, w0, m0, Bs, ds⟩ fr (.ops ops (i :: l)) Q ⟨sl, mem⟩ := gLkC tabOk h hz hm C hl hks hk hno hr hg
theorem me (h : mes tab ops.toList n i sl = some (t, b)) (hg : GF ⟨Tryz.prog, n, S0, O0, w0, m0, Bs, ds⟩ fr (.ops ops l) Q ⟨(t, .d (.bool b)) :: sl, mem⟩) : GF ⟨Tryz.prog, n, S0, O0, w0, m0, Bs, ds⟩ fr (.ops ops (i :: l)) Q ⟨sl, mem⟩ := gMe tabOk h hg
theorem fm (lo : Nat) {n : Nat} {S0 : Reg} {O0 : Owns} {w0 : World} {m0 Bs : List Nat} {ds : List Deferred} {fr : List Fr} {Q : Exit → GS → Prop} {c : Cf} {sl : List (Nat × PV)} {mem keep : List (List PV)} {s' : GS} {ks : List D} {vs : List PV} {k : Nat} (kb : D → Bool) (hkb : ∀ k, kb k = true → k ≠ .nilF) (hp : popK mem (fun a b => some (a, b)) = some (keep, mpc ks vs) := by exact rfl) (hf : fmS ⟨sl, mem⟩ keep ks vs = some (k, s') := by exact rfl) (hg : GF ⟨Tryz.prog, n, S0, O0, w0, m0, Bs, ds⟩ fr c Q s') (hlo : Nat.ble lo k = true := by rfl) (hl : vs.length = ks.length := by rfl) (hks : ks.all kb = true := by rfl) (hm : m0.length ≤ k := by first | (dsimp only [List.length_cons, List.length_nil]; omega) | simp_all) (hc : goes c = true := by rfl) : GF ⟨Tryz.prog, n, S0, O0, w0, m0, Bs, ds⟩ fr c Q ⟨sl, mem⟩ := gFmC hp hf hl hks hkb hm hc hg
theorem cm {args : List PV} (h : cms ops.toList n i sl = some (t, f, args)) (hc : Gm Tryz.prog f args mem r mem') (hg : GF ⟨Tryz.prog, n, S0, O0, w0, m0, Bs, ds⟩ fr (.ops ops l) Q ⟨(t, r) :: sl, mem'⟩) (hra : PV.refsBs mem.length args = true := by rfl) (hrm : mem.all (PV.refsBs mem.length) = true := by rfl) (hle : mem.length ≤ mem'.length := by exact oR rfl) : GF ⟨Tryz.prog, n, S0, O0, w0, m0, Bs, ds⟩ fr (.ops ops (i :: l)) Q ⟨sl, mem⟩ := gM h hc hra hrm hle hg
theorem enm (h : E.endK tab sl mem rvs e = some q) (hr : q = r) (hm : MSub mem'.length mem mem') (hb : PV.refsB mem'.length q = true := by rfl) (hn : k ≤ mem'.length := by exact oR rfl) : GF K [] (.leave e) (Fin Tryz.prog rvs k (fun q m => q = r ∧ m = mem')) ⟨sl, mem⟩ := gEndM tabOk h hb hn hm ⟨hr, rfl⟩
theorem ct (hc : evl s.slots c = .d (.bool b)) (hx : GF ⟨Tryz.prog, n, S0, O0, w0, m0, Bs, ds⟩ fr (.code x) Q s) (hb : b = true := by decide) : GF ⟨Tryz.prog, n, S0, O0, w0, m0, Bs, ds⟩ fr (.code (.cond c x y)) Q s := gct hc hb hx
theorem cf (hc : evl s.slots c = .d (.bool b)) (hy : GF ⟨Tryz.prog, n, S0, O0, w0, m0, Bs, ds⟩ fr (.code y) Q s) (hb : b = false := by decide) : GF ⟨Tryz.prog, n, S0, O0, w0, m0, Bs, ds⟩ fr (.code (.cond c x y)) Q s := gcf hc hb hy
theorem msame : ∀ {mem : List (List PV)}, mem.all (PV.refsBs n) = true → MSub n mem mem
 | [], _ => .nil
 | c :: r, h => by
  rw [List.all_cons, Bool.and_eq_true] at h
  refine .cons ?_ (msame h.2)
  have : ∀ {cs : List PV}, PV.refsBs n cs = true → CSub n cs cs := by
   intro cs
   induction cs with
   | nil => intro _; exact .nil
   | cons p r ih => intro h; rw [PV.refsBs, Bool.and_eq_true] at h; exact .cons (.inl rfl) h.1 (ih h.2)
  exact this h.1
theorem fg (lo : Nat) {n : Nat} {S0 : Reg} {O0 : Owns} {w0 : World} {m0 Bs : List Nat} {ds : List Deferred} {fr : List Fr} {Q : Exit → GS → Prop} {c : Cf} {s s' : GS} {k : Nat} (h : fgS s = some (k, s')) (hg : GF ⟨Tryz.prog, n, S0, O0, w0, m0, Bs, ds⟩ fr c Q s') (hlo : Nat.ble lo k = true := by rfl) (hk : m0.length ≤ k := by first | (dsimp only [List.length_cons, List.length_nil]; omega) | simp_all) (hrf : s'.mem.all (PV.refsBs k) = true := by rfl) (hc : goes c = true := by rfl) : GF ⟨Tryz.prog, n, S0, O0, w0, m0, Bs, ds⟩ fr c Q s := gFg h hk hrf hc hg
theorem sk (h : gsk ops.toList n i sl = some (t, g)) (hgf : g = false) (hg : GF ⟨Tryz.prog, n, S0, O0, w0, m0, Bs, ds⟩ fr (.ops ops l) Q ⟨(t, .when g (.d (.bool false))) :: sl, mem⟩) : GF ⟨Tryz.prog, n, S0, O0, w0, m0, Bs, ds⟩ fr (.ops ops (i :: l)) Q ⟨sl, mem⟩ := gSk (.d (.bool false)) h hgf hg
theorem ls {k zd : D} {kvs : List (D × D)} {kb : D → Bool} (C : KC Tryz.prog kt kb) (h : lks tab ops.toList n i sl = some (t, ok, .d (.map kvs), kt, et, k)) (hg : GF ⟨Tryz.prog, n, S0, O0, w0, m0, Bs, ds⟩ fr (.ops ops l) Q ⟨(t, r) :: sl, mem⟩) (hz : zvT tab et = some zp := by exact rfl) (hzd : zp.toD = some zd := by exact rfl) (hr : lsK ok k zd kvs = some r := by exact rfl) (hks : kvs.all (fun x => kb x.1) = true := by rfl) (hk : kb k = true := by rfl) : GF ⟨Tryz.prog, n, S0, O0, w0, m0, Bs, ds⟩ fr (.ops ops (i :: l)) Q ⟨sl, mem⟩ := gLsC tabOk h hz hzd C hks hk hr hg
theorem ols {k zd : D} {kvs : List (D × D)} {kb : D → Bool} (C : KC Tryz.prog kt kb) (hs : see ops.toList i es base = some pre := by exact rfl) (hj : nth nums (i + 1) = some j := by exact rfl) (h : ∀ rest, lks tab ops.toList n i (pre ++ rest) = some (t, ok, .d (.map kvs), kt, et, k) := by exact fun _ => rfl) (hz : zvT tab et = some zp := by exact rfl) (hzd : zp.toD = some zd := by exact rfl) (hr : lsK ok k zd kvs = some r := by exact rfl) (hks : kvs.all (fun x => kb x.1) = true := by rfl) (hk : kb k = true := by rfl) (hes : snocK es (i, t, r) some = some es' := by exact rfl) (hc : CO ⟨Tryz.prog, n, S0, O0, w0, m0, Bs, ds⟩ fr ops base mem j es' Q) : CO ⟨Tryz.prog, n, S0, O0, w0, m0, Bs, ds⟩ fr ops base mem i es Q :=
 oStep hs hj hes hc fun rest _ hg => gLsC tabOk (h rest) hz hzd C hks hk hr hg
theorem enxm {out : PV ⊕ Value} {RX : Value → List (List PV) → Prop} (h : E.endK tab sl mem rvs e = some q) (hr : out = .inl q) (hm : MSub mem'.length mem mem') (hb : PV.refsB mem'.length q = true := by rfl) (hn : k ≤ mem'.length := by exact oR rfl) : GF K [] (.leave e) (FinX Tryz.prog rvs k (fun q m => out = .inl q ∧ m = mem') RX) ⟨sl, mem⟩ := gEndXM tabOk h hr hm hb hn
theorem ar (r : Nat) {K : Ctx} {fr : List Fr} {ops : Array Oper} {b : Bool} {y : Code} {Q : Exit → GS → Prop} {s : GS} (h : GF K fr (.code (.seq (.region r ops b) y)) Q s) : GF K fr (.code (.seq (.region r ops b) y)) Q s := h
end
section
def pairB : D → Bool
 | .agg [.str a, .str b] => Nat.ble a.size 140737488355328 && Nat.ble b.size 140737488355328
 | _ => false
theorem laid : laidOutB Tryz.prog = true := by kernel_rfl
theorem C9 : KC Tryz.prog 9 strB := strKC u9
theorem C225 : KC Tryz.prog 225 pairB where
 law := deep_law_laid laid (m := 2) (by decide) (oR (by kernel_rfl)) (by kernel_rfl) (by kernel_rfl)
 ok k hk := by
  unfold pairB at hk
  split at hk
  · rename_i a b
    rw [Bool.and_eq_true] at hk
    have ha := Nat.le_of_ble_eq_true hk.1
    have hb := Nat.le_of_ble_eq_true hk.2
    suffices h : ∃ l, keyOf Tryz.prog 225 (.agg #[.string a, .string b]) = some l by
     obtain ⟨l, hl⟩ := h
     exact ⟨⟨_, l, rfl, hl⟩, by intro h; cases h⟩
    have h9 : ∀ (d : Nat) (s : ByteArray), s.size ≤ 140737488355328 → Tryz.prog.keyLits (d + 1) 9 [.string s] = some [.string s.data.toList] := fun d s hs => by
     have h1 : s.size ≤ maxLen := Nat.le_trans hs (by decide)
     simp only [Program.keyLits, u9, if_pos h1]
    have hsz : Tryz.prog.types.size = (Tryz.prog.types.size - 1) + 1 := by kernel_rfl
    have hc9 : Tryz.prog.cellsOf 9 = 1 := by kernel_rfl
    have hc : Tryz.prog.cellsOf 225 = 2 := by kernel_rfl
    unfold keyOf
    rw [u225]
    dsimp only
    rw [if_pos (by kernel_rfl), hsz]
    unfold Program.keyLits
    rw [u225]
    refine ⟨.string (keyBytes [.string a.data.toList, .string b.data.toList]), ?_⟩
    show Option.map (fun ls => Lit.string (keyBytes ls)) (if [Value.string a, Value.string b].length = Tryz.prog.cellsOf 225 then Option.map List.flatten (List.mapM (fun i => Tryz.prog.keyLits (Tryz.prog.types.size - 1 + 1) 9 (List.take (Tryz.prog.cellsOf 9) (List.drop (i * Tryz.prog.cellsOf 9) [Value.string a, Value.string b]))) (List.range 2)) else none) = _
    rw [hc, hc9]
    simp [List.range, List.range.loop, h9 _ _ ha, h9 _ _ hb]
  · cases hk
end
section
abbrev kk (a b : ByteArray) : D := .agg [.str a, .str b]
def rm0 : List (List PV) := [mpc [] [], [.mref 0]]
def rm1 : List (List PV) := [mpc [kk ⟨#[117, 110, 97, 114, 121]⟩ ⟨#[45]⟩] [.mref 3], [.mref 0], [.d (.str ⟨#[117, 110, 97, 114, 121]⟩), .d (.str ⟨#[45]⟩)], mpc [.str ⟨#[105, 110, 116]⟩] [.d (.str ⟨#[105, 110, 116]⟩)]]
def rm2 : List (List PV) := [mpc [kk ⟨#[117, 110, 97, 114, 121]⟩ ⟨#[45]⟩, kk ⟨#[117, 110, 97, 114, 121]⟩ ⟨#[33]⟩] [.mref 3, .mref 5], [.mref 0], [.d (.str ⟨#[117, 110, 97, 114, 121]⟩), .d (.str ⟨#[45]⟩)], mpc [.str ⟨#[105, 110, 116]⟩] [.d (.str ⟨#[105, 110, 116]⟩)], [.d (.str ⟨#[117, 110, 97, 114, 121]⟩), .d (.str ⟨#[33]⟩)], mpc [.str ⟨#[98, 111, 111, 108]⟩] [.d (.str ⟨#[98, 111, 111, 108]⟩)]]
def rm3 : List (List PV) := [mpc [kk ⟨#[117, 110, 97, 114, 121]⟩ ⟨#[45]⟩, kk ⟨#[117, 110, 97, 114, 121]⟩ ⟨#[33]⟩, kk ⟨#[98, 105, 110, 97, 114, 121]⟩ ⟨#[43]⟩, kk ⟨#[98, 105, 110, 97, 114, 121]⟩ ⟨#[45]⟩, kk ⟨#[98, 105, 110, 97, 114, 121]⟩ ⟨#[42]⟩, kk ⟨#[98, 105, 110, 97, 114, 121]⟩ ⟨#[47]⟩, kk ⟨#[98, 105, 110, 97, 114, 121]⟩ ⟨#[37]⟩] [.mref 3, .mref 5, .mref 7, .mref 9, .mref 11, .mref 13, .mref 15], [.mref 0], [.d (.str ⟨#[117, 110, 97, 114, 121]⟩), .d (.str ⟨#[45]⟩)], mpc [.str ⟨#[105, 110, 116]⟩] [.d (.str ⟨#[105, 110, 116]⟩)], [.d (.str ⟨#[117, 110, 97, 114, 121]⟩), .d (.str ⟨#[33]⟩)], mpc [.str ⟨#[98, 111, 111, 108]⟩] [.d (.str ⟨#[98, 111, 111, 108]⟩)], [.d (.str ⟨#[98, 105, 110, 97, 114, 121]⟩), .d (.str ⟨#[43]⟩)], mpc [.str ⟨#[105, 110, 116, 32, 105, 110, 116]⟩] [.d (.str ⟨#[105, 110, 116]⟩)], [.d (.str ⟨#[98, 105, 110, 97, 114, 121]⟩), .d (.str ⟨#[45]⟩)], mpc [.str ⟨#[105, 110, 116, 32, 105, 110, 116]⟩] [.d (.str ⟨#[105, 110, 116]⟩)], [.d (.str ⟨#[98, 105, 110, 97, 114, 121]⟩), .d (.str ⟨#[42]⟩)], mpc [.str ⟨#[105, 110, 116, 32, 105, 110, 116]⟩] [.d (.str ⟨#[105, 110, 116]⟩)], [.d (.str ⟨#[98, 105, 110, 97, 114, 121]⟩), .d (.str ⟨#[47]⟩)], mpc [.str ⟨#[105, 110, 116, 32, 105, 110, 116]⟩] [.d (.str ⟨#[105, 110, 116]⟩)], [.d (.str ⟨#[98, 105, 110, 97, 114, 121]⟩), .d (.str ⟨#[37]⟩)], mpc [.str ⟨#[105, 110, 116, 32, 105, 110, 116]⟩] [.d (.str ⟨#[105, 110, 116]⟩)]]
def rm4 : List (List PV) := [mpc [kk ⟨#[117, 110, 97, 114, 121]⟩ ⟨#[45]⟩, kk ⟨#[117, 110, 97, 114, 121]⟩ ⟨#[33]⟩, kk ⟨#[98, 105, 110, 97, 114, 121]⟩ ⟨#[43]⟩, kk ⟨#[98, 105, 110, 97, 114, 121]⟩ ⟨#[45]⟩, kk ⟨#[98, 105, 110, 97, 114, 121]⟩ ⟨#[42]⟩, kk ⟨#[98, 105, 110, 97, 114, 121]⟩ ⟨#[47]⟩, kk ⟨#[98, 105, 110, 97, 114, 121]⟩ ⟨#[37]⟩, kk ⟨#[98, 105, 110, 97, 114, 121]⟩ ⟨#[61, 61]⟩, kk ⟨#[98, 105, 110, 97, 114, 121]⟩ ⟨#[33, 61]⟩, kk ⟨#[98, 105, 110, 97, 114, 121]⟩ ⟨#[60]⟩, kk ⟨#[98, 105, 110, 97, 114, 121]⟩ ⟨#[60, 61]⟩, kk ⟨#[98, 105, 110, 97, 114, 121]⟩ ⟨#[62]⟩, kk ⟨#[98, 105, 110, 97, 114, 121]⟩ ⟨#[62, 61]⟩] [.mref 3, .mref 5, .mref 7, .mref 9, .mref 11, .mref 13, .mref 15, .mref 17, .mref 19, .mref 21, .mref 23, .mref 25, .mref 27], [.mref 0], [.d (.str ⟨#[117, 110, 97, 114, 121]⟩), .d (.str ⟨#[45]⟩)], mpc [.str ⟨#[105, 110, 116]⟩] [.d (.str ⟨#[105, 110, 116]⟩)], [.d (.str ⟨#[117, 110, 97, 114, 121]⟩), .d (.str ⟨#[33]⟩)], mpc [.str ⟨#[98, 111, 111, 108]⟩] [.d (.str ⟨#[98, 111, 111, 108]⟩)], [.d (.str ⟨#[98, 105, 110, 97, 114, 121]⟩), .d (.str ⟨#[43]⟩)], mpc [.str ⟨#[105, 110, 116, 32, 105, 110, 116]⟩] [.d (.str ⟨#[105, 110, 116]⟩)], [.d (.str ⟨#[98, 105, 110, 97, 114, 121]⟩), .d (.str ⟨#[45]⟩)], mpc [.str ⟨#[105, 110, 116, 32, 105, 110, 116]⟩] [.d (.str ⟨#[105, 110, 116]⟩)], [.d (.str ⟨#[98, 105, 110, 97, 114, 121]⟩), .d (.str ⟨#[42]⟩)], mpc [.str ⟨#[105, 110, 116, 32, 105, 110, 116]⟩] [.d (.str ⟨#[105, 110, 116]⟩)], [.d (.str ⟨#[98, 105, 110, 97, 114, 121]⟩), .d (.str ⟨#[47]⟩)], mpc [.str ⟨#[105, 110, 116, 32, 105, 110, 116]⟩] [.d (.str ⟨#[105, 110, 116]⟩)], [.d (.str ⟨#[98, 105, 110, 97, 114, 121]⟩), .d (.str ⟨#[37]⟩)], mpc [.str ⟨#[105, 110, 116, 32, 105, 110, 116]⟩] [.d (.str ⟨#[105, 110, 116]⟩)], [.d (.str ⟨#[98, 105, 110, 97, 114, 121]⟩), .d (.str ⟨#[61, 61]⟩)], mpc [.str ⟨#[105, 110, 116, 32, 105, 110, 116]⟩] [.d (.str ⟨#[98, 111, 111, 108]⟩)], [.d (.str ⟨#[98, 105, 110, 97, 114, 121]⟩), .d (.str ⟨#[33, 61]⟩)], mpc [.str ⟨#[105, 110, 116, 32, 105, 110, 116]⟩] [.d (.str ⟨#[98, 111, 111, 108]⟩)], [.d (.str ⟨#[98, 105, 110, 97, 114, 121]⟩), .d (.str ⟨#[60]⟩)], mpc [.str ⟨#[105, 110, 116, 32, 105, 110, 116]⟩] [.d (.str ⟨#[98, 111, 111, 108]⟩)], [.d (.str ⟨#[98, 105, 110, 97, 114, 121]⟩), .d (.str ⟨#[60, 61]⟩)], mpc [.str ⟨#[105, 110, 116, 32, 105, 110, 116]⟩] [.d (.str ⟨#[98, 111, 111, 108]⟩)], [.d (.str ⟨#[98, 105, 110, 97, 114, 121]⟩), .d (.str ⟨#[62]⟩)], mpc [.str ⟨#[105, 110, 116, 32, 105, 110, 116]⟩] [.d (.str ⟨#[98, 111, 111, 108]⟩)], [.d (.str ⟨#[98, 105, 110, 97, 114, 121]⟩), .d (.str ⟨#[62, 61]⟩)], mpc [.str ⟨#[105, 110, 116, 32, 105, 110, 116]⟩] [.d (.str ⟨#[98, 111, 111, 108]⟩)]]
def rm5 : List (List PV) := [mpc [kk ⟨#[117, 110, 97, 114, 121]⟩ ⟨#[45]⟩, kk ⟨#[117, 110, 97, 114, 121]⟩ ⟨#[33]⟩, kk ⟨#[98, 105, 110, 97, 114, 121]⟩ ⟨#[43]⟩, kk ⟨#[98, 105, 110, 97, 114, 121]⟩ ⟨#[45]⟩, kk ⟨#[98, 105, 110, 97, 114, 121]⟩ ⟨#[42]⟩, kk ⟨#[98, 105, 110, 97, 114, 121]⟩ ⟨#[47]⟩, kk ⟨#[98, 105, 110, 97, 114, 121]⟩ ⟨#[37]⟩, kk ⟨#[98, 105, 110, 97, 114, 121]⟩ ⟨#[61, 61]⟩, kk ⟨#[98, 105, 110, 97, 114, 121]⟩ ⟨#[33, 61]⟩, kk ⟨#[98, 105, 110, 97, 114, 121]⟩ ⟨#[60]⟩, kk ⟨#[98, 105, 110, 97, 114, 121]⟩ ⟨#[60, 61]⟩, kk ⟨#[98, 105, 110, 97, 114, 121]⟩ ⟨#[62]⟩, kk ⟨#[98, 105, 110, 97, 114, 121]⟩ ⟨#[62, 61]⟩, kk ⟨#[98, 105, 110, 97, 114, 121]⟩ ⟨#[38, 38]⟩, kk ⟨#[98, 105, 110, 97, 114, 121]⟩ ⟨#[124, 124]⟩] [.mref 3, .mref 5, .mref 7, .mref 9, .mref 11, .mref 13, .mref 15, .mref 17, .mref 19, .mref 21, .mref 23, .mref 25, .mref 27, .mref 31, .mref 33], [.mref 0], [.d (.str ⟨#[117, 110, 97, 114, 121]⟩), .d (.str ⟨#[45]⟩)], mpc [.str ⟨#[105, 110, 116]⟩] [.d (.str ⟨#[105, 110, 116]⟩)], [.d (.str ⟨#[117, 110, 97, 114, 121]⟩), .d (.str ⟨#[33]⟩)], mpc [.str ⟨#[98, 111, 111, 108]⟩] [.d (.str ⟨#[98, 111, 111, 108]⟩)], [.d (.str ⟨#[98, 105, 110, 97, 114, 121]⟩), .d (.str ⟨#[43]⟩)], mpc [.str ⟨#[105, 110, 116, 32, 105, 110, 116]⟩] [.d (.str ⟨#[105, 110, 116]⟩)], [.d (.str ⟨#[98, 105, 110, 97, 114, 121]⟩), .d (.str ⟨#[45]⟩)], mpc [.str ⟨#[105, 110, 116, 32, 105, 110, 116]⟩] [.d (.str ⟨#[105, 110, 116]⟩)], [.d (.str ⟨#[98, 105, 110, 97, 114, 121]⟩), .d (.str ⟨#[42]⟩)], mpc [.str ⟨#[105, 110, 116, 32, 105, 110, 116]⟩] [.d (.str ⟨#[105, 110, 116]⟩)], [.d (.str ⟨#[98, 105, 110, 97, 114, 121]⟩), .d (.str ⟨#[47]⟩)], mpc [.str ⟨#[105, 110, 116, 32, 105, 110, 116]⟩] [.d (.str ⟨#[105, 110, 116]⟩)], [.d (.str ⟨#[98, 105, 110, 97, 114, 121]⟩), .d (.str ⟨#[37]⟩)], mpc [.str ⟨#[105, 110, 116, 32, 105, 110, 116]⟩] [.d (.str ⟨#[105, 110, 116]⟩)], [.d (.str ⟨#[98, 105, 110, 97, 114, 121]⟩), .d (.str ⟨#[61, 61]⟩)], mpc [.str ⟨#[105, 110, 116, 32, 105, 110, 116]⟩, .str ⟨#[98, 111, 111, 108, 32, 98, 111, 111, 108]⟩] [.d (.str ⟨#[98, 111, 111, 108]⟩), .d (.str ⟨#[98, 111, 111, 108]⟩)], [.d (.str ⟨#[98, 105, 110, 97, 114, 121]⟩), .d (.str ⟨#[33, 61]⟩)], mpc [.str ⟨#[105, 110, 116, 32, 105, 110, 116]⟩, .str ⟨#[98, 111, 111, 108, 32, 98, 111, 111, 108]⟩] [.d (.str ⟨#[98, 111, 111, 108]⟩), .d (.str ⟨#[98, 111, 111, 108]⟩)], [.d (.str ⟨#[98, 105, 110, 97, 114, 121]⟩), .d (.str ⟨#[60]⟩)], mpc [.str ⟨#[105, 110, 116, 32, 105, 110, 116]⟩] [.d (.str ⟨#[98, 111, 111, 108]⟩)], [.d (.str ⟨#[98, 105, 110, 97, 114, 121]⟩), .d (.str ⟨#[60, 61]⟩)], mpc [.str ⟨#[105, 110, 116, 32, 105, 110, 116]⟩] [.d (.str ⟨#[98, 111, 111, 108]⟩)], [.d (.str ⟨#[98, 105, 110, 97, 114, 121]⟩), .d (.str ⟨#[62]⟩)], mpc [.str ⟨#[105, 110, 116, 32, 105, 110, 116]⟩] [.d (.str ⟨#[98, 111, 111, 108]⟩)], [.d (.str ⟨#[98, 105, 110, 97, 114, 121]⟩), .d (.str ⟨#[62, 61]⟩)], mpc [.str ⟨#[105, 110, 116, 32, 105, 110, 116]⟩] [.d (.str ⟨#[98, 111, 111, 108]⟩)], [.d (.str ⟨#[98, 105, 110, 97, 114, 121]⟩), .d (.str ⟨#[61, 61]⟩)], [.d (.str ⟨#[98, 105, 110, 97, 114, 121]⟩), .d (.str ⟨#[33, 61]⟩)], [.d (.str ⟨#[98, 105, 110, 97, 114, 121]⟩), .d (.str ⟨#[38, 38]⟩)], mpc [.str ⟨#[98, 111, 111, 108, 32, 98, 111, 111, 108]⟩] [.d (.str ⟨#[98, 111, 111, 108]⟩)], [.d (.str ⟨#[98, 105, 110, 97, 114, 121]⟩), .d (.str ⟨#[124, 124]⟩)], mpc [.str ⟨#[98, 111, 111, 108, 32, 98, 111, 111, 108]⟩] [.d (.str ⟨#[98, 111, 111, 108]⟩)]]
set_option maxHeartbeats 4000000 in
theorem c280_0 : Gm Tryz.prog 280 [.d (.str ⟨#[117, 110, 97, 114, 121]⟩), .d (.str ⟨#[105, 110, 116]⟩), .d (.str ⟨#[105, 110, 116]⟩), .d (.sl [.str ⟨#[45]⟩]), .ref 1 0] rm0 (.tup []) rm1 := by
 refine gmB 2 Tryz.func280 Tryz.ntmps280 Tryz.results280 (fun S0 O0 w0 m0 hm0 => ?_)
 unfold rm0
 repeat' first | refine st (by exact rfl) ?_ | refine me (by exact rfl) ?_ | refine lo C225 (hg := ?_) | refine mu C225 (hg := ?_) | refine mu C9 (hg := ?_) | refine el (by exact rfl) rfl ?_ (by decide) | refine ct (by exact rfl) ?_ | refine cf (by exact rfl) ?_ | refine gRn 8 ?_ | fail
 exact Y8
set_option maxHeartbeats 4000000 in
theorem c280_1 : Gm Tryz.prog 280 [.d (.str ⟨#[117, 110, 97, 114, 121]⟩), .d (.str ⟨#[98, 111, 111, 108]⟩), .d (.str ⟨#[98, 111, 111, 108]⟩), .d (.sl [.str ⟨#[33]⟩]), .ref 1 0] rm1 (.tup []) rm2 := by
 refine gmB 4 Tryz.func280 Tryz.ntmps280 Tryz.results280 (fun S0 O0 w0 m0 hm0 => ?_)
 unfold rm1
 repeat' first | refine st (by exact rfl) ?_ | refine me (by exact rfl) ?_ | refine lo C225 (hg := ?_) | refine mu C225 (hg := ?_) | refine mu C9 (hg := ?_) | refine el (by exact rfl) rfl ?_ (by decide) | refine ct (by exact rfl) ?_ | refine cf (by exact rfl) ?_ | refine gRn 8 ?_ | fail
 exact Y8
set_option maxHeartbeats 4000000 in
theorem c280_2 : Gm Tryz.prog 280 [.d (.str ⟨#[98, 105, 110, 97, 114, 121]⟩), .d (.str ⟨#[105, 110, 116]⟩), .d (.str ⟨#[105, 110, 116, 32, 105, 110, 116]⟩), .d (.sl [.str ⟨#[43]⟩, .str ⟨#[45]⟩, .str ⟨#[42]⟩, .str ⟨#[47]⟩, .str ⟨#[37]⟩]), .ref 1 0] rm2 (.tup []) rm3 := by
 refine gmB 6 Tryz.func280 Tryz.ntmps280 Tryz.results280 (fun S0 O0 w0 m0 hm0 => ?_)
 unfold rm2
 repeat' first | refine st (by exact rfl) ?_ | refine me (by exact rfl) ?_ | refine lo C225 (hg := ?_) | refine mu C225 (hg := ?_) | refine mu C9 (hg := ?_) | refine el (by exact rfl) rfl ?_ (by decide) | refine ct (by exact rfl) ?_ | refine cf (by exact rfl) ?_ | refine gRn 8 ?_ | fail
 exact Y8
set_option maxHeartbeats 4000000 in
theorem c280_3 : Gm Tryz.prog 280 [.d (.str ⟨#[98, 105, 110, 97, 114, 121]⟩), .d (.str ⟨#[98, 111, 111, 108]⟩), .d (.str ⟨#[105, 110, 116, 32, 105, 110, 116]⟩), .d (.sl [.str ⟨#[61, 61]⟩, .str ⟨#[33, 61]⟩, .str ⟨#[60]⟩, .str ⟨#[60, 61]⟩, .str ⟨#[62]⟩, .str ⟨#[62, 61]⟩]), .ref 1 0] rm3 (.tup []) rm4 := by
 refine gmB 16 Tryz.func280 Tryz.ntmps280 Tryz.results280 (fun S0 O0 w0 m0 hm0 => ?_)
 unfold rm3
 repeat' first | refine st (by exact rfl) ?_ | refine me (by exact rfl) ?_ | refine lo C225 (hg := ?_) | refine mu C225 (hg := ?_) | refine mu C9 (hg := ?_) | refine el (by exact rfl) rfl ?_ (by decide) | refine ct (by exact rfl) ?_ | refine cf (by exact rfl) ?_ | refine gRn 8 ?_ | fail
 exact Y8
set_option maxHeartbeats 4000000 in
theorem c280_4 : Gm Tryz.prog 280 [.d (.str ⟨#[98, 105, 110, 97, 114, 121]⟩), .d (.str ⟨#[98, 111, 111, 108]⟩), .d (.str ⟨#[98, 111, 111, 108, 32, 98, 111, 111, 108]⟩), .d (.sl [.str ⟨#[61, 61]⟩, .str ⟨#[33, 61]⟩, .str ⟨#[38, 38]⟩, .str ⟨#[124, 124]⟩]), .ref 1 0] rm4 (.tup []) rm5 := by
 refine gmB 28 Tryz.func280 Tryz.ntmps280 Tryz.results280 (fun S0 O0 w0 m0 hm0 => ?_)
 unfold rm4
 repeat' first | refine st (by exact rfl) ?_ | refine me (by exact rfl) ?_ | refine lo C225 (hg := ?_) | refine mu C225 (hg := ?_) | refine mu C9 (hg := ?_) | refine el (by exact rfl) rfl ?_ (by decide) | refine ct (by exact rfl) ?_ | refine cf (by exact rfl) ?_ | refine gRn 8 ?_ | fail
 exact Y8
end
section
def rulesM : List (D × D) := [(kk ⟨#[117, 110, 97, 114, 121]⟩ ⟨#[45]⟩, .map [(.str ⟨#[105, 110, 116]⟩, .str ⟨#[105, 110, 116]⟩)]),
 (kk ⟨#[117, 110, 97, 114, 121]⟩ ⟨#[33]⟩, .map [(.str ⟨#[98, 111, 111, 108]⟩, .str ⟨#[98, 111, 111, 108]⟩)]),
 (kk ⟨#[98, 105, 110, 97, 114, 121]⟩ ⟨#[43]⟩, .map [(.str ⟨#[105, 110, 116, 32, 105, 110, 116]⟩, .str ⟨#[105, 110, 116]⟩)]),
 (kk ⟨#[98, 105, 110, 97, 114, 121]⟩ ⟨#[45]⟩, .map [(.str ⟨#[105, 110, 116, 32, 105, 110, 116]⟩, .str ⟨#[105, 110, 116]⟩)]),
 (kk ⟨#[98, 105, 110, 97, 114, 121]⟩ ⟨#[42]⟩, .map [(.str ⟨#[105, 110, 116, 32, 105, 110, 116]⟩, .str ⟨#[105, 110, 116]⟩)]),
 (kk ⟨#[98, 105, 110, 97, 114, 121]⟩ ⟨#[47]⟩, .map [(.str ⟨#[105, 110, 116, 32, 105, 110, 116]⟩, .str ⟨#[105, 110, 116]⟩)]),
 (kk ⟨#[98, 105, 110, 97, 114, 121]⟩ ⟨#[37]⟩, .map [(.str ⟨#[105, 110, 116, 32, 105, 110, 116]⟩, .str ⟨#[105, 110, 116]⟩)]),
 (kk ⟨#[98, 105, 110, 97, 114, 121]⟩ ⟨#[61, 61]⟩, .map [(.str ⟨#[105, 110, 116, 32, 105, 110, 116]⟩, .str ⟨#[98, 111, 111, 108]⟩), (.str ⟨#[98, 111, 111, 108, 32, 98, 111, 111, 108]⟩, .str ⟨#[98, 111, 111, 108]⟩)]),
 (kk ⟨#[98, 105, 110, 97, 114, 121]⟩ ⟨#[33, 61]⟩, .map [(.str ⟨#[105, 110, 116, 32, 105, 110, 116]⟩, .str ⟨#[98, 111, 111, 108]⟩), (.str ⟨#[98, 111, 111, 108, 32, 98, 111, 111, 108]⟩, .str ⟨#[98, 111, 111, 108]⟩)]),
 (kk ⟨#[98, 105, 110, 97, 114, 121]⟩ ⟨#[60]⟩, .map [(.str ⟨#[105, 110, 116, 32, 105, 110, 116]⟩, .str ⟨#[98, 111, 111, 108]⟩)]),
 (kk ⟨#[98, 105, 110, 97, 114, 121]⟩ ⟨#[60, 61]⟩, .map [(.str ⟨#[105, 110, 116, 32, 105, 110, 116]⟩, .str ⟨#[98, 111, 111, 108]⟩)]),
 (kk ⟨#[98, 105, 110, 97, 114, 121]⟩ ⟨#[62]⟩, .map [(.str ⟨#[105, 110, 116, 32, 105, 110, 116]⟩, .str ⟨#[98, 111, 111, 108]⟩)]),
 (kk ⟨#[98, 105, 110, 97, 114, 121]⟩ ⟨#[62, 61]⟩, .map [(.str ⟨#[105, 110, 116, 32, 105, 110, 116]⟩, .str ⟨#[98, 111, 111, 108]⟩)]),
 (kk ⟨#[98, 105, 110, 97, 114, 121]⟩ ⟨#[38, 38]⟩, .map [(.str ⟨#[98, 111, 111, 108, 32, 98, 111, 111, 108]⟩, .str ⟨#[98, 111, 111, 108]⟩)]),
 (kk ⟨#[98, 105, 110, 97, 114, 121]⟩ ⟨#[124, 124]⟩, .map [(.str ⟨#[98, 111, 111, 108, 32, 98, 111, 111, 108]⟩, .str ⟨#[98, 111, 111, 108]⟩)])]
set_option maxHeartbeats 4000000 in
theorem c220 : Pf Tryz.prog 220 [] (.d (.map rulesM)) := by
 refine pfb Tryz.func220 Tryz.ntmps220 Tryz.results220 (fun S0 O0 w0 m0 hm0 => ?_)
 repeat' first | refine st (by exact rfl) ?_ | refine bs (by exact rfl) ?_ | refine cm (by exact rfl) c280_0 ?_ | refine cm (by exact rfl) c280_1 ?_ | refine cm (by exact rfl) c280_2 ?_ | refine cm (by exact rfl) c280_3 ?_ | fail
 refine cm (by exact rfl) c280_4 ?_
 repeat' first | refine fm 2 strB (fun k h => (C9.ok k h).2) (hlo := by exact rfl) (hg := ?_) | refine fg 2 (by exact rfl) (hlo := by exact rfl) (hg := ?_) | fail
 refine st (by exact rfl) (st (by exact rfl) (st (by exact rfl) (st (by exact rfl) ?_)))
 refine st (by exact rfl) (st (by exact rfl) ?_)
 refine fg 1 (by exact rfl) ?_
 refine fm 0 pairB (fun k h => (C225.ok k h).2) (hg := ?_)
 repeat' first | refine st (by exact rfl) ?_ | fail
 exact en (by exact rfl) rfl
end
end Go.Proofs.YtklkbfpjimeaoaaGreat
