import Derived.Test.YtklkbfpjimeaoaaProg
import Derived.KernelRfl
import Derived.Test.YtklkbfpjimeaoaaM17
import Derived.Test.YtklkbfpjimeaoaaM15
import Derived.Test.YtklkbfpjimeaoaaM16
/- Contracts of functions. Conditions: none. -/
set_option linter.unusedSimpArgs false
set_option linter.unusedVariables false
namespace Go.Proofs.Ytklkbfpjimeaoaa
open Go Go.Proofs.Ytklkbfpjimeaoaa.E
section
def tab : List (Nat × TI) := [(2, ⟨true, 1, [.int .i64], (.int .i64)⟩),
 (3, ⟨true, 1, [.int .i64], (.int .i64)⟩),
 (4, ⟨true, 1, [.bool], .bool⟩),
 (5, ⟨true, 1, [.int .u8], (.int .u8)⟩),
 (6, ⟨true, 1, [.int .u8], (.int .u8)⟩),
 (7, ⟨false, 4, [.int .i64, .int .i64, .bool, .int .u8], (.struct [(0, 1, true), (1, 1, true), (2, 1, true), (3, 1, true)])⟩),
 (8, ⟨false, 4, [.int .i64, .int .i64, .bool, .int .u8], (.struct [(0, 1, true), (1, 1, true), (2, 1, true), (3, 1, true)])⟩),
 (9, ⟨true, 1, [.str], .str⟩),
 (10, ⟨true, 1, [.str], .str⟩),
 (11, ⟨true, 1, [.str], .str⟩),
 (12, ⟨true, 1, [.int .u64], (.int .u64)⟩),
 (13, ⟨false, 2, [.str, .int .u64], (.struct [(0, 1, true), (1, 1, true)])⟩),
 (14, ⟨false, 2, [.str, .int .u64], (.struct [(0, 1, true), (1, 1, true)])⟩),
 (15, ⟨true, 1, [.ptr], .ptr⟩),
 (16, ⟨true, 1, [.ptr], .ptr⟩),
 (17, ⟨true, 1, [.ptr], .ptr⟩),
 (18, ⟨false, 1, [.ptr], (.struct [(0, 1, true)])⟩),
 (19, ⟨false, 1, [.ptr], (.struct [(0, 1, true)])⟩),
 (20, ⟨true, 1, [.ifc], .other⟩),
 (21, ⟨true, 1, [.int .i32], (.int .i32)⟩),
 (22, ⟨true, 1, [.sl], (.slice 27 4 56 [.int .i64, .str, .int .i64, .sl])⟩),
 (23, ⟨true, 1, [.sl], (.slice 57 10 152 [.str, .bool, .bool, .sl, .int .i64, .str, .int .i64, .sl, .sl, .sl])⟩),
 (24, ⟨false, 2, [.sl, .sl], (.struct [(0, 1, true), (1, 1, true)])⟩),
 (25, ⟨false, 2, [.sl, .sl], (.struct [(0, 1, true), (1, 1, true)])⟩),
 (26, ⟨false, 4, [.int .i64, .str, .int .i64, .sl], (.struct [(0, 1, true), (1, 1, true), (2, 1, true), (3, 1, true)])⟩),
 (27, ⟨false, 4, [.int .i64, .str, .int .i64, .sl], (.struct [(0, 1, true), (1, 1, true), (2, 1, true), (3, 1, true)])⟩),
 (28, ⟨true, 1, [.sl], (.slice 30 3 40 [.str, .str, .bool])⟩),
 (29, ⟨false, 3, [.str, .str, .bool], (.struct [(0, 1, true), (1, 1, true), (2, 1, true)])⟩),
 (30, ⟨false, 3, [.str, .str, .bool], (.struct [(0, 1, true), (1, 1, true), (2, 1, true)])⟩),
 (35, ⟨true, 1, [.sl], (.slice 43 3 40 [.str, .str, .bool])⟩),
 (37, ⟨true, 1, [.int .i64], (.int .i64)⟩),
 (40, ⟨true, 1, [.sl], (.slice 9 1 16 [.str])⟩),
 (43, ⟨false, 3, [.str, .str, .bool], (.struct [(0, 1, true), (1, 1, true), (2, 1, true)])⟩),
 (55, ⟨true, 1, [.sl], (.slice 60 6 88 [.str, .str, .int .i64, .str, .int .i64, .sl])⟩),
 (56, ⟨false, 10, [.str, .bool, .bool, .sl, .int .i64, .str, .int .i64, .sl, .sl, .sl], (.struct [(0, 1, true), (1, 1, true), (2, 1, true), (3, 1, true), (4, 4, false), (8, 1, true), (9, 1, true)])⟩),
 (57, ⟨false, 10, [.str, .bool, .bool, .sl, .int .i64, .str, .int .i64, .sl, .sl, .sl], (.struct [(0, 1, true), (1, 1, true), (2, 1, true), (3, 1, true), (4, 4, false), (8, 1, true), (9, 1, true)])⟩),
 (59, ⟨false, 6, [.str, .str, .int .i64, .str, .int .i64, .sl], (.struct [(0, 1, true), (1, 1, true), (2, 4, false)])⟩),
 (60, ⟨false, 6, [.str, .str, .int .i64, .str, .int .i64, .sl], (.struct [(0, 1, true), (1, 1, true), (2, 4, false)])⟩),
 (68, ⟨true, 1, [.map], (.map 9 43)⟩),
 (69, ⟨true, 1, [.ptr], .ptr⟩),
 (70, ⟨false, 4, [.sl, .sl, .map, .ptr], (.struct [(0, 2, false), (2, 1, true), (3, 1, true)])⟩),
 (71, ⟨false, 4, [.sl, .sl, .map, .ptr], (.struct [(0, 2, false), (2, 1, true), (3, 1, true)])⟩),
 (73, ⟨true, 1, [.sl], (.slice 3 1 8 [.int .i64])⟩),
 (74, ⟨false, 2, [.int .i64, .sl], (.struct [(0, 1, true), (1, 1, true)])⟩),
 (75, ⟨false, 2, [.int .i64, .sl], (.struct [(0, 1, true), (1, 1, true)])⟩),
 (78, ⟨false, 6, [.str, .str, .bool, .ptr, .int .i64, .int .i64], (.struct [(0, 3, false), (3, 1, true), (4, 1, true), (5, 1, true)])⟩),
 (79, ⟨false, 6, [.str, .str, .bool, .ptr, .int .i64, .int .i64], (.struct [(0, 3, false), (3, 1, true), (4, 1, true), (5, 1, true)])⟩),
 (82, ⟨true, 1, [.ptr], .ptr⟩),
 (93, ⟨true, 1, [.map], (.map 3 107)⟩),
 (106, ⟨false, 3, [.sl, .bool, .fn], (.struct [(0, 1, true), (1, 1, true), (2, 1, true)])⟩),
 (107, ⟨false, 3, [.sl, .bool, .fn], (.struct [(0, 1, true), (1, 1, true), (2, 1, true)])⟩),
 (112, ⟨true, 1, [.map], (.map 9 9)⟩),
 (113, ⟨true, 1, [.map], (.map 115 112)⟩),
 (115, ⟨false, 2, [.str, .str], (.array 2 1)⟩),
 (117, ⟨false, 3, [.str, .str, .str], (.array 3 1)⟩),
 (118, ⟨false, 4, [.str, .str, .str, .str], (.array 4 1)⟩),
 (120, ⟨false, 3, [.str, .str, .int .i64], (.struct [(0, 1, true), (1, 1, true), (2, 1, true)])⟩),
 (121, ⟨false, 3, [.str, .str, .int .i64], (.struct [(0, 1, true), (1, 1, true), (2, 1, true)])⟩),
 (122, ⟨true, 1, [.map], (.map 9 121)⟩),
 (133, ⟨true, 1, [.sl], (.slice 5 1 1 [.int .u8])⟩),
 (137, ⟨false, 4, [.ptr, .ptr, .ptr, .str], (.struct [(0, 1, true), (1, 1, true), (2, 1, true), (3, 1, true)])⟩),
 (138, ⟨false, 4, [.ptr, .ptr, .ptr, .str], (.struct [(0, 1, true), (1, 1, true), (2, 1, true), (3, 1, true)])⟩),
 (139, ⟨false, 0, [], (.array 0 1)⟩),
 (140, ⟨false, 0, [], (.struct [(0, 0, false)])⟩),
 (141, ⟨false, 0, [], (.struct [(0, 0, false)])⟩),
 (143, ⟨true, 1, [.int .u32], (.int .u32)⟩),
 (144, ⟨true, 1, [.int .u8], (.int .u8)⟩),
 (145, ⟨true, 1, [.int .u8], (.int .u8)⟩),
 (147, ⟨true, 1, [.ptr], .ptr⟩),
 (148, ⟨true, 1, [.int .i32], (.int .i32)⟩),
 (149, ⟨true, 1, [.int .i32], (.int .i32)⟩),
 (150, ⟨false, 11, [.int .u64, .int .u64, .int .u32, .int .u8, .int .u8, .int .u8, .int .u8, .fn, .ptr, .int .i32, .int .i32], (.struct [(0, 1, true), (1, 1, true), (2, 1, true), (3, 1, true), (4, 1, true), (5, 1, true), (6, 1, true), (7, 1, true), (8, 1, true), (9, 1, true), (10, 1, true)])⟩),
 (151, ⟨false, 11, [.int .u64, .int .u64, .int .u32, .int .u8, .int .u8, .int .u8, .int .u8, .fn, .ptr, .int .i32, .int .i32], (.struct [(0, 1, true), (1, 1, true), (2, 1, true), (3, 1, true), (4, 1, true), (5, 1, true), (6, 1, true), (7, 1, true), (8, 1, true), (9, 1, true), (10, 1, true)])⟩)]
theorem tabOk : tabB Try.prog tab = true := by kernel_rfl
variable {n : Nat} {S0 : Reg} {O0 : Owns} {w0 : World} {m0 Bs : List Nat} {ds : List Deferred} {fr : List Fr} {Q : Exit → GS → Prop} {s : GS} {ob : List (Bool × Bool)}
theorem st {fr' : List Fr} {c c' : Cf} {s' : GS} (h : adv tab n fr c s = some (ob, fr', c', s')) (hg : GF ⟨Try.prog, n, S0, O0, w0, m0, Bs, ds⟩ fr' c' Q s') (ho : Obl ob := by repeat first | exact Obl.nil | refine Obl.same ?_ | refine Obl.imp (fun h => by simp_all) ?_) : GF ⟨Try.prog, n, S0, O0, w0, m0, Bs, ds⟩ fr c Q s := adv_of tabOk h hg ho
variable {c : Operand} {x y : Code} {b : Bool}
theorem cd (hc : evl s.slots c = .d (.bool b)) (hx : b = true → GF ⟨Try.prog, n, S0, O0, w0, m0, Bs, ds⟩ fr (.code x) Q s) (hy : b = false → GF ⟨Try.prog, n, S0, O0, w0, m0, Bs, ds⟩ fr (.code y) Q s) : GF ⟨Try.prog, n, S0, O0, w0, m0, Bs, ds⟩ fr (.code (.cond c x y)) Q s := gcd hc hx hy
variable {ops : Array Oper} {i t : Nat} {l : List Nat} {sl : List (Nat × PV)} {mem : List (List PV)}
theorem el {m : Nat} {xs : List D} {j : Int} {d : D} (h : ixs tab ops.toList n i sl = some (t, none, ob, xs, j, m)) (hd : xs[j.toNat]? = some d) (hg : GF ⟨Try.prog, n, S0, O0, w0, m0, Bs, ds⟩ fr (.ops ops l) Q ⟨(t, .d (.ptr d)) :: sl, mem⟩) (h0 : 0 ≤ j := by omega) (hn : d.cells.length = m := by first | rfl | simp [D.cells]) (hm : 0 < m := by decide) (ho : Obl ob := by repeat first | exact Obl.nil | refine Obl.same ?_ | refine Obl.imp (fun h => by simp_all) ?_) : GF ⟨Try.prog, n, S0, O0, w0, m0, Bs, ds⟩ fr (.ops ops (i :: l)) Q ⟨sl, mem⟩ := gI d tabOk h (fun _ => ⟨h0, hd, hn⟩) hm ho hg
variable {f : FuncId} {r : PV}
theorem cl {ds' : List D} (h : cls ops.toList n i sl = some (t, none, ob, f, ds')) (hc : Pf Try.prog f ds' r) (hg : GF ⟨Try.prog, n, S0, O0, w0, m0, Bs, ds⟩ fr (.ops ops l) Q ⟨(t, r) :: sl, mem⟩) (ho : Obl ob := by repeat first | exact Obl.nil | refine Obl.same ?_ | refine Obl.imp (fun h => by simp_all) ?_) : GF ⟨Try.prog, n, S0, O0, w0, m0, Bs, ds⟩ fr (.ops ops (i :: l)) Q ⟨sl, mem⟩ := gC h (fun _ => hc) ho hg
variable {g : Bool}
theorem clg {ds' : List D} (h : cls ops.toList n i sl = some (t, some g, ob, f, ds')) (hc : g = true → Pf Try.prog f ds' r) (hg : GF ⟨Try.prog, n, S0, O0, w0, m0, Bs, ds⟩ fr (.ops ops l) Q ⟨(t, .when g r) :: sl, mem⟩) (ho : Obl ob := by repeat first | exact Obl.nil | refine Obl.same ?_ | refine Obl.imp (fun h => by simp_all) ?_) : GF ⟨Try.prog, n, S0, O0, w0, m0, Bs, ds⟩ fr (.ops ops (i :: l)) Q ⟨sl, mem⟩ := gC h hc ho hg
variable {p : PV}
theorem qu {C : Prop} (h : qcs tab ops.toList n i sl = some (t, none, ob, C, p)) (hc : C) (hg : GF ⟨Try.prog, n, S0, O0, w0, m0, Bs, ds⟩ fr (.ops ops l) Q ⟨(t, p) :: sl, mem⟩) (ho : Obl ob := by repeat first | exact Obl.nil | refine Obl.same ?_ | refine Obl.imp (fun h => by simp_all) ?_) : GF ⟨Try.prog, n, S0, O0, w0, m0, Bs, ds⟩ fr (.ops ops (i :: l)) Q ⟨sl, mem⟩ := gQ tabOk h (fun _ => hc) ho hg
variable {k : Nat}
theorem ap {u b : Nat} {xs ys : List D} (h : aps tab ops.toList n i sl = some (t, u, k, b, xs, ys)) (hg : GF ⟨Try.prog, n, S0, O0, w0, m0, Bs, ds⟩ fr (.ops ops l) Q ⟨(t, .osl k (xs ++ ys)) :: (u, .d (.sl xs)) :: sl, mem⟩) (hk0 : 0 < k := by decide) (hne : ys ≠ [] := by simp) (hk : ∀ y ∈ ys, y.cells.length = k := by simp [D.cells]) (hl : xs.length + ys.length ≤ lim := by simp only [lim, List.length_cons, List.length_nil, List.length_append, List.length_map]; omega) (hB : (xs.length + ys.length) * b ≤ lim := by simp only [lim, List.length_cons, List.length_nil, List.length_append, List.length_map]; omega) : GF ⟨Try.prog, n, S0, O0, w0, m0, Bs, ds⟩ fr (.ops ops (i :: l)) Q ⟨sl, mem⟩ := gA tabOk h hk0 hne hk hl hB hg
theorem bs {xs : List D} (h : bss tab ops.toList n i sl = some (t, k, xs)) (hg : GF ⟨Try.prog, n, S0, O0, w0, m0, Bs, ds⟩ fr (.ops ops l) Q ⟨(t, .osl k xs) :: sl, mem⟩) (hk0 : 0 < k := by decide) (hk : ∀ d ∈ xs, d.cells.length = k := by simp [D.cells]) : GF ⟨Try.prog, n, S0, O0, w0, m0, Bs, ds⟩ fr (.ops ops (i :: l)) Q ⟨sl, mem⟩ := gB tabOk h hk0 hk hg
theorem fz (isAgg : Bool) {n : Nat} {S0 : Reg} {O0 : Owns} {w0 : World} {m0 Bs : List Nat} {ds : List Deferred} {fr : List Fr} {Q : Exit → GS → Prop} {c : Cf} {s s' : GS} {k : Nat} {d : D} (h : frs isAgg s = some (k, d, s')) (hg : GF ⟨Try.prog, n, S0, O0, w0, m0, Bs, ds⟩ fr c Q s') (hk : m0.length ≤ k := by first | (dsimp only [List.length_cons, List.length_nil]; omega) | simp_all) (hrf : s'.mem.all (PV.refsBs k) = true := by rfl) (hc : goes c = true := by rfl) : GF ⟨Try.prog, n, S0, O0, w0, m0, Bs, ds⟩ fr c Q s := gFz isAgg h hk hrf hc hg
variable {K : Ctx} {rvs : List ResultVar} {e : Exit} {q : PV}
theorem en (h : E.endK tab sl mem rvs e = some q) (hr : q = r) (hb : PV.refsB 0 q = true := by rfl) : GF K [] (.leave e) (Fin Try.prog rvs 0 (fun q m => q = r ∧ m = [])) ⟨sl, mem⟩ := gEnd tabOk h hb hr
theorem mixed : Try.prog.follows .mixedOrders = true := by kernel_rfl
variable {base : List (Nat × PV)}
theorem oo {id : Nat} {tt : List Nat} (hb : baseK ops.toList sl = some (tt, base) := by exact rfl) (hdep : ((List.range ops.size).all fun i => (depsOf ops i).all fun d => Nat.blt d i) = true := by kernel_rfl) (hc : CO ⟨Try.prog, n, S0, O0, w0, m0, Bs, ds⟩ fr ops base mem 0 [] Q) : GF ⟨Try.prog, n, S0, O0, w0, m0, Bs, ds⟩ fr (.code (.region id ops true)) Q ⟨sl, mem⟩ := gOpen hb mixed hdep hc
variable {pre : List (Nat × PV)} {j : Nat} {es es' : List (Nat × Nat × PV)}
theorem ov (hs : see ops.toList i es base = some pre := by exact rfl) (hj : nth nums (i + 1) = some j := by exact rfl) (h : ∀ rest, E.step tab ops.toList n i ⟨pre ++ rest, mem⟩ = some (ob, ⟨(t, p) :: (pre ++ rest), mem⟩) := by exact fun _ => rfl) (hes : snocK es (i, t, p) some = some es' := by exact rfl) (hc : CO ⟨Try.prog, n, S0, O0, w0, m0, Bs, ds⟩ fr ops base mem j es' Q) (ho : Obl ob := by repeat first | exact Obl.nil | refine Obl.same ?_ | refine Obl.imp (fun h => by simp_all) ?_) : CO ⟨Try.prog, n, S0, O0, w0, m0, Bs, ds⟩ fr ops base mem i es Q := oV tabOk hs hj h hes hc ho
theorem oc {ds' : List D} (hs : see ops.toList i es base = some pre := by exact rfl) (hj : nth nums (i + 1) = some j := by exact rfl) (h : ∀ rest, cls ops.toList n i (pre ++ rest) = some (t, none, ob, f, ds') := by exact fun _ => rfl) (hcl : Pf Try.prog f ds' r) (hes : snocK es (i, t, r) some = some es' := by exact rfl) (hc : CO ⟨Try.prog, n, S0, O0, w0, m0, Bs, ds⟩ fr ops base mem j es' Q) (ho : Obl ob := by repeat first | exact Obl.nil | refine Obl.same ?_ | refine Obl.imp (fun h => by simp_all) ?_) : CO ⟨Try.prog, n, S0, O0, w0, m0, Bs, ds⟩ fr ops base mem i es Q := oC (g := none) hs hj h (fun _ => hcl) hes hc ho
theorem ocg {ds' : List D} (hs : see ops.toList i es base = some pre := by exact rfl) (hj : nth nums (i + 1) = some j := by exact rfl) (h : ∀ rest, cls ops.toList n i (pre ++ rest) = some (t, some g, ob, f, ds') := by exact fun _ => rfl) (hcl : g = true → Pf Try.prog f ds' r) (hes : snocK es (i, t, .when g r) some = some es' := by exact rfl) (hc : CO ⟨Try.prog, n, S0, O0, w0, m0, Bs, ds⟩ fr ops base mem j es' Q) (ho : Obl ob := by repeat first | exact Obl.nil | refine Obl.same ?_ | refine Obl.imp (fun h => by simp_all) ?_) : CO ⟨Try.prog, n, S0, O0, w0, m0, Bs, ds⟩ fr ops base mem i es Q := oC (g := some g) hs hj h hcl hes hc ho
theorem oi {m : Nat} {xs : List D} {ix : Int} {d : D} (hs : see ops.toList i es base = some pre := by exact rfl) (hj : nth nums (i + 1) = some j := by exact rfl) (h : ∀ rest, ixs tab ops.toList n i (pre ++ rest) = some (t, none, ob, xs, ix, m) := by exact fun _ => rfl) (hd : xs[ix.toNat]? = some d) (hes : snocK es (i, t, .d (.ptr d)) some = some es' := by exact rfl) (hc : CO ⟨Try.prog, n, S0, O0, w0, m0, Bs, ds⟩ fr ops base mem j es' Q) (h0 : 0 ≤ ix := by omega) (hn : d.cells.length = m := by first | rfl | simp [D.cells]) (hm : 0 < m := by decide) (ho : Obl ob := by repeat first | exact Obl.nil | refine Obl.same ?_ | refine Obl.imp (fun h => by simp_all) ?_) : CO ⟨Try.prog, n, S0, O0, w0, m0, Bs, ds⟩ fr ops base mem i es Q := oI (g := none) d tabOk hs hj h (fun _ => ⟨h0, hd, hn⟩) hm hes hc ho
theorem oe (hi : sizeIs ops.toList i = true := by exact rfl) (hp : putK es base some = some sl := by exact rfl) (hc : GF ⟨Try.prog, n, S0, O0, w0, m0, Bs, ds⟩ fr (.leave .normal) Q ⟨sl, mem⟩) (hn : nodupB (es.map (·.2.1)) = true := by rfl) (hb : base.all (fun x => !(es.map (·.2.1)).contains x.1) = true := by rfl) (hf : es.all (fun x => Nat.blt x.1 ops.size) = true := by rfl) : CO ⟨Try.prog, n, S0, O0, w0, m0, Bs, ds⟩ fr ops base mem i es Q := oEnd hi hp hc hn hb hf
theorem clp {ds' : List D} {u : Value} (h : cls ops.toList n i sl = some (t, none, ob, f, ds')) (hc : Px Try.prog f ds' (.inr u)) (hg : GF ⟨Try.prog, n, S0, O0, w0, m0, Bs, ds⟩ fr (.leave (.panic (chain1 u))) Q ⟨sl, mem⟩) : GF ⟨Try.prog, n, S0, O0, w0, m0, Bs, ds⟩ fr (.ops ops (i :: l)) Q ⟨sl, mem⟩ := gCP h hc hg
theorem enx {out : PV ⊕ Value} {RX : Value → List (List PV) → Prop} (h : E.endK tab sl mem rvs e = some q) (hr : out = .inl q) (hb : PV.refsB 0 q = true := by rfl) : GF K [] (.leave e) (FinX Try.prog rvs 0 (fun q m => out = .inl q ∧ m = []) RX) ⟨sl, mem⟩ := gEndX tabOk h hb hr
variable {kt : TypeId} {mem' : List (List PV)}
theorem mu {b : Nat} {ks : List D} {vs : List PV} {k : D} {kb : D → Bool} (C : KC Try.prog kt kb) (h : mus tab ops.toList i sl = some (b, kt, k, p) := by exact rfl) (hm : nth mem b = some (mpc ks vs) := by exact rfl) (hmem : putMK mem b ks vs k p = some mem' := by exact rfl) (hg : GF ⟨Try.prog, n, S0, O0, w0, m0, Bs, ds⟩ fr (.ops ops l) Q ⟨sl, mem'⟩) (hl : vs.length = ks.length := by rfl) (hks : ks.all kb = true := by rfl) (hk : kb k = true := by rfl) (hno : p.noown = true := by rfl) : GF ⟨Try.prog, n, S0, O0, w0, m0, Bs, ds⟩ fr (.ops ops (i :: l)) Q ⟨sl, mem⟩ := gMuC tabOk h hm C hl hks hk hno hmem hg
variable {ok : Bool} {et : TypeId} {zp : PV}
theorem lo {b : Nat} {k : D} {ks : List D} {vs : List PV} {kb : D → Bool} (C : KC Try.prog kt kb) (h : lks tab ops.toList n i sl = some (t, ok, .mref b, kt, et, k) := by exact rfl) (hz : zvT tab et = some zp := by exact rfl) (hm : nth mem b = some (mpc ks vs) := by exact rfl) (hr : lkK ok k zp ks vs = some r := by exact rfl) (hg : GF ⟨Try.prog, n, S0, O0, w0, m0, Bs, ds⟩ fr (.ops ops l) Q ⟨(t, r) :: sl, mem⟩) (hl : vs.length = ks.length := by rfl) (hks : ks.all kb = true := by rfl) (hk : kb k = true := by rfl) (hno : PV.noowns vs = true := by rfl) : GF ⟨Try.prog, n, S0, O0, w0, m0, Bs, ds⟩ fr (.ops ops (i :: l)) Q ⟨sl, mem⟩ := gLkC tabOk h hz hm C hl hks hk hno hr hg
theorem me (h : mes tab ops.toList n i sl = some (t, b)) (hg : GF ⟨Try.prog, n, S0, O0, w0, m0, Bs, ds⟩ fr (.ops ops l) Q ⟨(t, .d (.bool b)) :: sl, mem⟩) : GF ⟨Try.prog, n, S0, O0, w0, m0, Bs, ds⟩ fr (.ops ops (i :: l)) Q ⟨sl, mem⟩ := gMe tabOk h hg
theorem fm (lo : Nat) {n : Nat} {S0 : Reg} {O0 : Owns} {w0 : World} {m0 Bs : List Nat} {ds : List Deferred} {fr : List Fr} {Q : Exit → GS → Prop} {c : Cf} {sl : List (Nat × PV)} {mem keep : List (List PV)} {s' : GS} {ks : List D} {vs : List PV} {k : Nat} (kb : D → Bool) (hkb : ∀ k, kb k = true → k ≠ .nilF) (hp : popK mem (fun a b => some (a, b)) = some (keep, mpc ks vs) := by exact rfl) (hf : fmS ⟨sl, mem⟩ keep ks vs = some (k, s') := by exact rfl) (hg : GF ⟨Try.prog, n, S0, O0, w0, m0, Bs, ds⟩ fr c Q s') (hlo : Nat.ble lo k = true := by rfl) (hl : vs.length = ks.length := by rfl) (hks : ks.all kb = true := by rfl) (hm : m0.length ≤ k := by first | (dsimp only [List.length_cons, List.length_nil]; omega) | simp_all) (hc : goes c = true := by rfl) : GF ⟨Try.prog, n, S0, O0, w0, m0, Bs, ds⟩ fr c Q ⟨sl, mem⟩ := gFmC hp hf hl hks hkb hm hc hg
theorem cm {args : List PV} (h : cms ops.toList n i sl = some (t, f, args)) (hc : Gm Try.prog f args mem r mem') (hg : GF ⟨Try.prog, n, S0, O0, w0, m0, Bs, ds⟩ fr (.ops ops l) Q ⟨(t, r) :: sl, mem'⟩) (hra : PV.refsBs mem.length args = true := by rfl) (hrm : mem.all (PV.refsBs mem.length) = true := by rfl) (hle : mem.length ≤ mem'.length := by exact oR rfl) : GF ⟨Try.prog, n, S0, O0, w0, m0, Bs, ds⟩ fr (.ops ops (i :: l)) Q ⟨sl, mem⟩ := gM h hc hra hrm hle hg
theorem enm (h : E.endK tab sl mem rvs e = some q) (hr : q = r) (hm : MSub mem'.length mem mem') (hb : PV.refsB mem'.length q = true := by rfl) (hn : k ≤ mem'.length := by exact oR rfl) : GF K [] (.leave e) (Fin Try.prog rvs k (fun q m => q = r ∧ m = mem')) ⟨sl, mem⟩ := gEndM tabOk h hb hn hm ⟨hr, rfl⟩
theorem ct (hc : evl s.slots c = .d (.bool b)) (hx : GF ⟨Try.prog, n, S0, O0, w0, m0, Bs, ds⟩ fr (.code x) Q s) (hb : b = true := by decide) : GF ⟨Try.prog, n, S0, O0, w0, m0, Bs, ds⟩ fr (.code (.cond c x y)) Q s := gct hc hb hx
theorem cf (hc : evl s.slots c = .d (.bool b)) (hy : GF ⟨Try.prog, n, S0, O0, w0, m0, Bs, ds⟩ fr (.code y) Q s) (hb : b = false := by decide) : GF ⟨Try.prog, n, S0, O0, w0, m0, Bs, ds⟩ fr (.code (.cond c x y)) Q s := gcf hc hb hy
theorem msame : ∀ {mem : List (List PV)}, mem.all (PV.refsBs n) = true → MSub n mem mem
 | [], _ => .nil
 | c :: r, h => by
  rw [List.all_cons, Bool.and_eq_true] at h
  refine .cons ?_ (msame h.2)
  have : ∀ {cs : List PV}, PV.refsBs n cs = true → CSub n cs cs := by
   intro cs
   induction cs with
   | nil => intro _; exact .nil
   | cons p r ih => intro h; rw [PV.refsBs, Bool.and_eq_true] at h; exact .cons (.inl rfl) h.1 (ih h.2)
  exact this h.1
theorem fg (lo : Nat) {n : Nat} {S0 : Reg} {O0 : Owns} {w0 : World} {m0 Bs : List Nat} {ds : List Deferred} {fr : List Fr} {Q : Exit → GS → Prop} {c : Cf} {s s' : GS} {k : Nat} (h : fgS s = some (k, s')) (hg : GF ⟨Try.prog, n, S0, O0, w0, m0, Bs, ds⟩ fr c Q s') (hlo : Nat.ble lo k = true := by rfl) (hk : m0.length ≤ k := by first | (dsimp only [List.length_cons, List.length_nil]; omega) | simp_all) (hrf : s'.mem.all (PV.refsBs k) = true := by rfl) (hc : goes c = true := by rfl) : GF ⟨Try.prog, n, S0, O0, w0, m0, Bs, ds⟩ fr c Q s := gFg h hk hrf hc hg
theorem sk (h : gsk ops.toList n i sl = some (t, g)) (hgf : g = false) (hg : GF ⟨Try.prog, n, S0, O0, w0, m0, Bs, ds⟩ fr (.ops ops l) Q ⟨(t, .when g (.d (.bool false))) :: sl, mem⟩) : GF ⟨Try.prog, n, S0, O0, w0, m0, Bs, ds⟩ fr (.ops ops (i :: l)) Q ⟨sl, mem⟩ := gSk (.d (.bool false)) h hgf hg
theorem ls {k zd : D} {kvs : List (D × D)} {kb : D → Bool} (C : KC Try.prog kt kb) (h : lks tab ops.toList n i sl = some (t, ok, .d (.map kvs), kt, et, k)) (hg : GF ⟨Try.prog, n, S0, O0, w0, m0, Bs, ds⟩ fr (.ops ops l) Q ⟨(t, r) :: sl, mem⟩) (hz : zvT tab et = some zp := by exact rfl) (hzd : zp.toD = some zd := by exact rfl) (hr : lsK ok k zd kvs = some r := by exact rfl) (hks : kvs.all (fun x => kb x.1) = true := by rfl) (hk : kb k = true := by rfl) : GF ⟨Try.prog, n, S0, O0, w0, m0, Bs, ds⟩ fr (.ops ops (i :: l)) Q ⟨sl, mem⟩ := gLsC tabOk h hz hzd C hks hk hr hg
theorem ols {k zd : D} {kvs : List (D × D)} {kb : D → Bool} (C : KC Try.prog kt kb) (hs : see ops.toList i es base = some pre := by exact rfl) (hj : nth nums (i + 1) = some j := by exact rfl) (h : ∀ rest, lks tab ops.toList n i (pre ++ rest) = some (t, ok, .d (.map kvs), kt, et, k) := by exact fun _ => rfl) (hz : zvT tab et = some zp := by exact rfl) (hzd : zp.toD = some zd := by exact rfl) (hr : lsK ok k zd kvs = some r := by exact rfl) (hks : kvs.all (fun x => kb x.1) = true := by rfl) (hk : kb k = true := by rfl) (hes : snocK es (i, t, r) some = some es' := by exact rfl) (hc : CO ⟨Try.prog, n, S0, O0, w0, m0, Bs, ds⟩ fr ops base mem j es' Q) : CO ⟨Try.prog, n, S0, O0, w0, m0, Bs, ds⟩ fr ops base mem i es Q :=
 oStep hs hj hes hc fun rest _ hg => gLsC tabOk (h rest) hz hzd C hks hk hr hg
theorem enxm {out : PV ⊕ Value} {RX : Value → List (List PV) → Prop} (h : E.endK tab sl mem rvs e = some q) (hr : out = .inl q) (hm : MSub mem'.length mem mem') (hb : PV.refsB mem'.length q = true := by rfl) (hn : k ≤ mem'.length := by exact oR rfl) : GF K [] (.leave e) (FinX Try.prog rvs k (fun q m => out = .inl q ∧ m = mem') RX) ⟨sl, mem⟩ := gEndXM tabOk h hr hm hb hn
theorem oh (iS : Nat) (c2 : List PV) {n : Nat} {S0 : Reg} {O0 : Owns} {w0 : World} {m0 Bs : List Nat} {ds : List Deferred} {fr : List Fr} {Q : Exit → GS → Prop} {id : Nat} {ops : Array Oper} {sl base : List (Nat × PV)} {c1 : List PV} {tl : List (List PV)} {tt : List Nat} (hb : baseK ops.toList sl = some (tt, base) := by exact rfl) (hdep : ((List.range ops.size).all fun i => (depsOf ops i).all fun d => Nat.blt d i) = true := by kernel_rfl) (hc : COh ⟨Try.prog, n, S0, O0, w0, m0, Bs, ds⟩ fr ops base iS c1 c2 tl 0 [] Q) : GF ⟨Try.prog, n, S0, O0, w0, m0, Bs, ds⟩ fr (.code (.region id ops true)) Q ⟨sl, c1 :: tl⟩ := gOpenH iS hb mixed hdep hc
theorem ovh {iS : Nat} {c1 c2 : List PV} {tl : List (List PV)} (hs : see ops.toList i es base = some pre := by exact rfl) (hj : nth nums (i + 1) = some j := by exact rfl) (h : ∀ rest X, E.step tab ops.toList n i ⟨pre ++ rest, X :: tl⟩ = some (ob, ⟨(t, p) :: (pre ++ rest), X :: tl⟩) := by exact fun _ _ => rfl) (hes : snocK es (i, t, p) some = some es' := by exact rfl) (hc : COh ⟨Try.prog, n, S0, O0, w0, m0, Bs, ds⟩ fr ops base iS c1 c2 tl j es' Q) (h2 : Nat.beq i iS = false := by rfl) (ho : Obl ob := by repeat first | exact Obl.nil | refine Obl.same ?_ | refine Obl.imp (fun h => by simp_all) ?_) : COh ⟨Try.prog, n, S0, O0, w0, m0, Bs, ds⟩ fr ops base iS c1 c2 tl i es Q :=
 oStepH hs hj hes h2 hc fun rest X _ hg => toO (gv tabOk (h rest X) (ofO hg) ho)
theorem oeh {iS : Nat} {c1 c2 : List PV} {tl : List (List PV)} (hi : sizeIs ops.toList i = true := by exact rfl) (hp : putK es base some = some sl := by exact rfl) (hc : GF ⟨Try.prog, n, S0, O0, w0, m0, Bs, ds⟩ fr (.leave .normal) Q ⟨sl, c2 :: tl⟩) (hS : Nat.blt iS ops.size = true := by rfl) (hn : nodupB (es.map (·.2.1)) = true := by rfl) (hb : base.all (fun x => !(es.map (·.2.1)).contains x.1) = true := by rfl) (hf : es.all (fun x => Nat.blt x.1 ops.size) = true := by rfl) : COh ⟨Try.prog, n, S0, O0, w0, m0, Bs, ds⟩ fr ops base iS c1 c2 tl i es Q := oEndH hi hp hS hc hn hb hf
theorem cs (sel : List Nat) {n : Nat} {S0 : Reg} {O0 : Owns} {w0 : World} {m0 Bs : List Nat} {ds : List Deferred} {fr : List Fr} {Q : Exit → GS → Prop} {ops : Array Oper} {i : Nat} {l : List Nat} {sl : List (Nat × PV)} {mem : List (List PV)} {t : Nat} {f : FuncId} {args args0 : List PV} {mem0 mem1 mem' : List (List PV)} {r r' : PV} (h : cms ops.toList n i sl = some (t, f, args)) (hc : Gm Try.prog f args0 mem0 r mem1) (hg : GF ⟨Try.prog, n, S0, O0, w0, m0, Bs, ds⟩ fr (.ops ops l) Q ⟨(t, r') :: sl, mem'⟩) (hargs : args = PV.rens (fun b => sel.getD b 0) args0 := by rfl) (hnd : sel.Nodup := by decide) (hsel : ∀ b ∈ sel, b < mem.length := by simp)
 (hmem : sel.map (fun b => mem.getD b []) = mem0.map (PV.rens (fun b => sel.getD b 0)) := by rfl) (hra : PV.refsBs sel.length args0 = true := by rfl) (hrm : mem0.all (PV.refsBs sel.length) = true := by rfl) (hl : mem1.length = sel.length := by rfl) (hr : r.ren (fun b => sel.getD b 0) = r' := by rfl) (hm : setAll mem sel (mem1.map (PV.rens (fun b => sel.getD b 0))) = mem' := by rfl) : GF ⟨Try.prog, n, S0, O0, w0, m0, Bs, ds⟩ fr (.ops ops (i :: l)) Q ⟨sl, mem⟩ := gMs sel h hc hargs hnd hsel hmem hra hrm hl hr hm hg
theorem xs (sel : List Nat) {n : Nat} {S0 : Reg} {O0 : Owns} {w0 : World} {m0 Bs : List Nat} {ds : List Deferred} {fr : List Fr} {Q : Exit → GS → Prop} {ops : Array Oper} {i : Nat} {l : List Nat} {sl : List (Nat × PV)} {mem : List (List PV)} {t : Nat} {f : FuncId} {args args0 : List PV} {mem0 mem1 mem' : List (List PV)} {r r' : PV} (h : cms ops.toList n i sl = some (t, f, args)) (hc : Xm Try.prog f args0 mem0 (.inl r) mem1) (hg : GF ⟨Try.prog, n, S0, O0, w0, m0, Bs, ds⟩ fr (.ops ops l) Q ⟨(t, r') :: sl, mem'⟩) (hargs : args = PV.rens (fun b => sel.getD b 0) args0 := by rfl) (hnd : sel.Nodup := by decide) (hsel : ∀ b ∈ sel, b < mem.length := by simp)
 (hmem : sel.map (fun b => mem.getD b []) = mem0.map (PV.rens (fun b => sel.getD b 0)) := by rfl) (hra : PV.refsBs sel.length args0 = true := by rfl) (hrm : mem0.all (PV.refsBs sel.length) = true := by rfl) (hl : mem1.length = sel.length := by rfl) (hr : r.ren (fun b => sel.getD b 0) = r' := by rfl) (hm : setAll mem sel (mem1.map (PV.rens (fun b => sel.getD b 0))) = mem' := by rfl) : GF ⟨Try.prog, n, S0, O0, w0, m0, Bs, ds⟩ fr (.ops ops (i :: l)) Q ⟨sl, mem⟩ := gXs sel h hc hargs hnd hsel hmem hra hrm hl hr hm hg
theorem ar (r : Nat) {K : Ctx} {fr : List Fr} {ops : Array Oper} {b : Bool} {y : Code} {Q : Exit → GS → Prop} {s : GS} (h : GF K fr (.code (.seq (.region r ops b) y)) Q s) : GF K fr (.code (.seq (.region r ops b) y)) Q s := h
end
section
theorem ap0 {n : Nat} {S0 : Reg} {O0 : Owns} {w0 : World} {m0 Bs : List Nat} {ds : List Deferred} {fr : List Fr} {Q : Exit → GS → Prop} {ops : Array Oper} {i : Nat} {l : List Nat} {sl : List (Nat × PV)} {mem : List (List PV)} {t u k b : Nat} {xs : List D} (h : aps tab ops.toList n i sl = some (t, u, k, b, xs, [])) (hg : GF ⟨Try.prog, n, S0, O0, w0, m0, Bs, ds⟩ fr (.ops ops l) Q ⟨(t, .osl k xs) :: (u, .d (.sl xs)) :: sl, mem⟩) (hu0 : lk sl u = .osl k xs := by rfl) (htu : t ≠ u := by decide) : GF ⟨Try.prog, n, S0, O0, w0, m0, Bs, ds⟩ fr (.ops ops (i :: l)) Q ⟨sl, mem⟩ := gA0 tabOk h hu0 htu hg
theorem bx {n : Nat} {S0 : Reg} {O0 : Owns} {w0 : World} {m0 Bs : List Nat} {ds : List Deferred} {fr : List Fr} {Q : Exit → GS → Prop} {ops : Array Oper} {i t k : Nat} {l : List Nat} {sl : List (Nat × PV)} {mem mem' : List (List PV)} {d : D} (h : bxs ops.toList n i sl = some (t, .d d)) (hd : PV.cellsOf (.d d) = [.d d]) (hg : GF ⟨Try.prog, n, S0, O0, w0, m0, Bs, ds⟩ fr (.ops ops l) Q ⟨(t, .ref k 0) :: sl, mem'⟩) (hm : mem ++ [[.d d]] = mem' := by rfl) (hk : mem.length = k := by rfl) : GF ⟨Try.prog, n, S0, O0, w0, m0, Bs, ds⟩ fr (.ops ops (i :: l)) Q ⟨sl, mem⟩ := gBx h rfl (by rw [hd]; rfl) hm hk hg
theorem oih {n : Nat} {S0 : Reg} {O0 : Owns} {w0 : World} {m0 Bs : List Nat} {ds : List Deferred} {fr : List Fr} {Q : Exit → GS → Prop} {ops : Array Oper} {base pre : List (Nat × PV)} {iS : Nat} {c1 c2 : List PV} {tl : List (List PV)} {i j t m : Nat} {es es' : List (Nat × Nat × PV)} {ob : List (Bool × Bool)} {xs : List D} {ix : Int} {d : D} (hs : see ops.toList i es base = some pre := by exact rfl) (hj : nth nums (i + 1) = some j := by exact rfl) (h : ∀ rest, ixs tab ops.toList n i (pre ++ rest) = some (t, none, ob, xs, ix, m) := by exact fun _ => rfl) (hd : xs[ix.toNat]? = some d) (hes : snocK es (i, t, .d (.ptr d)) some = some es' := by exact rfl) (hc : COh ⟨Try.prog, n, S0, O0, w0, m0, Bs, ds⟩ fr ops base iS c1 c2 tl j es' Q) (h0 : 0 ≤ ix := by omega) (hn : d.cells.length = m := by first | rfl | simp [D.cells]) (hm : 0 < m := by decide) (h2 : Nat.beq i iS = false := by rfl) (ho : Obl ob := by repeat first | exact Obl.nil | refine Obl.same ?_ | refine Obl.imp (fun h => by simp_all) ?_) : COh ⟨Try.prog, n, S0, O0, w0, m0, Bs, ds⟩ fr ops base iS c1 c2 tl i es Q :=
 oStepH hs hj hes h2 hc fun rest X _ hg => gI d tabOk (h rest) (fun _ => ⟨h0, hd, hn⟩) hm ho hg
theorem ok (kl : List (Nat × Nat)) {n : Nat} {S0 : Reg} {O0 : Owns} {w0 : World} {m0 Bs : List Nat} {ds : List Deferred} {fr : List Fr} {Q : Exit → GS → Prop} {id : Nat} {ops : Array Oper} {sl base : List (Nat × PV)} {mem : List (List PV)} {tt : List Nat} (hb : baseK ops.toList sl = some (tt, base) := by exact rfl) (hdep : ((List.range ops.size).all fun i => (depsOf ops i).all fun d => Nat.blt d i) = true := by kernel_rfl) (hc : COk kl ⟨Try.prog, n, S0, O0, w0, m0, Bs, ds⟩ fr ops base mem 0 [] Q) : GF ⟨Try.prog, n, S0, O0, w0, m0, Bs, ds⟩ fr (.code (.region id ops true)) Q ⟨sl, mem⟩ := gOpenCG kl hb mixed hdep rfl hc
theorem oa (iL iA iS : Nat) (c1 c2 : List PV) {n : Nat} {S0 : Reg} {O0 : Owns} {w0 : World} {m0 Bs : List Nat} {ds : List Deferred} {fr : List Fr} {Q : Exit → GS → Prop} {id : Nat} {ops : Array Oper} {sl base : List (Nat × PV)} {c0 : List PV} {tl : List (List PV)} {tt : List Nat} (hb : baseK ops.toList sl = some (tt, base) := by exact rfl) (hdep : ((List.range ops.size).all fun i => (depsOf ops i).all fun d => Nat.blt d i) = true := by kernel_rfl) (hc : COa ⟨Try.prog, n, S0, O0, w0, m0, Bs, ds⟩ fr ops base iL iA iS c0 c1 c2 tl 0 [] Q) : GF ⟨Try.prog, n, S0, O0, w0, m0, Bs, ds⟩ fr (.code (.region id ops true)) Q ⟨sl, c0 :: tl⟩ := gOpenCG [(iL, iA), (iA, iS)] hb mixed hdep rfl hc
section
variable {n : Nat} {S0 : Reg} {O0 : Owns} {w0 : World} {m0 Bs : List Nat} {ds : List Deferred} {fr : List Fr} {Q : Exit → GS → Prop} {iL iA iS : Nat} {c0 c1 c2 : List PV} {tl : List (List PV)} {ops : Array Oper} {base pre sl : List (Nat × PV)} {i j t u : Nat} {es es' : List (Nat × Nat × PV)} {p q : PV}
theorem ova {ob : List (Bool × Bool)} (hs : seeF [(iL, iA), (iA, iS)] ops.toList i es base = some pre := by exact rfl) (hj : nth nums (i + 1) = some j := by exact rfl) (h : ∀ rest X, E.step tab ops.toList n i ⟨pre ++ rest, X :: tl⟩ = some (ob, ⟨(t, p) :: (pre ++ rest), X :: tl⟩) := by exact fun _ _ => rfl) (hes : snocK es (i, t, p) some = some es' := by exact rfl) (hc : COa ⟨Try.prog, n, S0, O0, w0, m0, Bs, ds⟩ fr ops base iL iA iS c0 c1 c2 tl j es' Q) (h2 : Nat.beq i iL = false := by rfl) (h3 : Nat.beq i iS = false := by rfl) (ho : Obl ob := by repeat first | exact Obl.nil | refine Obl.same ?_ | refine Obl.imp (fun h => by simp_all) ?_) : COa ⟨Try.prog, n, S0, O0, w0, m0, Bs, ds⟩ fr ops base iL iA iS c0 c1 c2 tl i es Q :=
 aStep hs hj hes h2 h3 hc fun rest X _ hg => toO (gv tabOk (h rest X) (ofO hg) ho)
theorem oba {k : Nat} {xs : List D} (hs : seeF [(iL, iA), (iA, iS)] ops.toList i es base = some pre := by exact rfl) (hj : nth nums (i + 1) = some j := by exact rfl) (h : ∀ rest, bss tab ops.toList n i (pre ++ rest) = some (t, k, xs) := by exact fun _ => rfl) (hes : snocK es (i, t, .osl k xs) some = some es' := by exact rfl) (hc : COa ⟨Try.prog, n, S0, O0, w0, m0, Bs, ds⟩ fr ops base iL iA iS c0 c1 c2 tl j es' Q) (h2 : Nat.beq i iL = false := by rfl) (h3 : Nat.beq i iS = false := by rfl) (hk0 : 0 < k := by decide) (hk : ∀ d ∈ xs, d.cells.length = k := by simp [D.cells]) : COa ⟨Try.prog, n, S0, O0, w0, m0, Bs, ds⟩ fr ops base iL iA iS c0 c1 c2 tl i es Q :=
 aStep hs hj hes h2 h3 hc fun rest X _ hg => gB tabOk (h rest) hk0 hk hg
theorem ola {ob : List (Bool × Bool)} (hs : seeF [(iL, iA), (iA, iS)] ops.toList iL es base = some pre := by exact rfl) (hj : nth nums (iL + 1) = some j := by exact rfl) (h : ∀ rest, E.step tab ops.toList n iL ⟨pre ++ rest, c0 :: tl⟩ = some (ob, ⟨(t, p) :: (pre ++ rest), c1 :: tl⟩) := by exact fun _ => rfl) (hes : snocK es (iL, t, p) some = some es' := by exact rfl) (hc : COa ⟨Try.prog, n, S0, O0, w0, m0, Bs, ds⟩ fr ops base iL iA iS c0 c1 c2 tl j es' Q) (h1 : memN iL (depsOf ops iA) = true := by kernel_rfl) (h2 : memN iA (depsOf ops iS) = true := by kernel_rfl) (h3 : Nat.beq iL iS = false := by rfl) (ho : Obl ob := by repeat first | exact Obl.nil | refine Obl.same ?_ | refine Obl.imp (fun h => by simp_all) ?_) : COa ⟨Try.prog, n, S0, O0, w0, m0, Bs, ds⟩ fr ops base iL iA iS c0 c1 c2 tl iL es Q :=
 aLoad hs hj hes h1 h2 h3 hc fun rest _ hg => toO (gv tabOk (h rest) (ofO hg) ho)
theorem oaa {k b : Nat} {xs ys : List D} (hs : seeF [(iL, iA), (iA, iS)] ops.toList iA es base = some pre := by exact rfl) (hj : nth nums (iA + 1) = some j := by exact rfl) (h : ∀ rest, aps tab ops.toList n iA (pre ++ rest) = some (t, u, k, b, xs, ys) := by exact fun _ => rfl) (hes : snocK es (iA, t, .osl k (xs ++ ys)) some = some es' := by exact rfl) (hc : COa ⟨Try.prog, n, S0, O0, w0, m0, Bs, ds⟩ fr ops base iL iA iS c0 c1 c2 tl j es' Q) (hx : tkB [(iL, iA), (iA, iS)] es u iA = true := by rfl) (h2 : Nat.beq iA iL = false := by rfl) (h3 : Nat.beq iA iS = false := by rfl) (hk0 : 0 < k := by decide) (hne : ys ≠ [] := by simp) (hk : ∀ y ∈ ys, y.cells.length = k := by simp [D.cells]) (hl : xs.length + ys.length ≤ lim := by simp only [lim, List.length_cons, List.length_nil, List.length_append, List.length_map]; omega) (hB : (xs.length + ys.length) * b ≤ lim := by simp only [lim, List.length_cons, List.length_nil, List.length_append, List.length_map]; omega) : COa ⟨Try.prog, n, S0, O0, w0, m0, Bs, ds⟩ fr ops base iL iA iS c0 c1 c2 tl iA es Q :=
 aApp hs hj hes hx h2 h3 hc fun rest X _ hg => gA tabOk (h rest) hk0 hne hk hl hB hg
theorem osa {ob : List (Bool × Bool)} (hs : seeF [(iL, iA), (iA, iS)] ops.toList iS es base = some pre := by exact rfl) (hj : nth nums (iS + 1) = some j := by exact rfl) (h : ∀ rest, E.step tab ops.toList n iS ⟨pre ++ rest, c1 :: tl⟩ = some (ob, ⟨(u, q) :: (pre ++ rest), c2 :: tl⟩) := by exact fun _ => rfl) (hc : COa ⟨Try.prog, n, S0, O0, w0, m0, Bs, ds⟩ fr ops base iL iA iS c0 c1 c2 tl j es Q) (hx : tkB [(iL, iA), (iA, iS)] es u iS = true := by rfl) (h1 : memN iL (depsOf ops iA) = true := by kernel_rfl) (h2 : memN iA (depsOf ops iS) = true := by kernel_rfl) (h3 : Nat.beq iS iL = false := by rfl) (ho : Obl ob := by repeat first | exact Obl.nil | refine Obl.same ?_ | refine Obl.imp (fun h => by simp_all) ?_) : COa ⟨Try.prog, n, S0, O0, w0, m0, Bs, ds⟩ fr ops base iL iA iS c0 c1 c2 tl iS es Q :=
 aStore hs hj hx h1 h2 h3 hc fun rest _ hg => toO (gv tabOk (h rest) (ofO hg) ho)
theorem oea (hi : sizeIs ops.toList i = true := by exact rfl) (hM : (fun b : Nat → Bool => (cond (b iS) c2 (cond (b iL) c1 c0)) :: tl) (allB ops.size) = c2 :: tl := by exact rfl) (hp : (es.filter fun x => (([(iL, iA), (iA, iS)] : List (Nat × Nat)).lookup x.1).isNone).map (·.2) ++ base = sl := by exact rfl) (hc : GF ⟨Try.prog, n, S0, O0, w0, m0, Bs, ds⟩ fr (.leave .normal) Q ⟨sl, c2 :: tl⟩) (hn : nodupB (es.map (·.2.1)) = true := by rfl) (hb : base.all (fun x => !(es.map (·.2.1)).contains x.1) = true := by rfl) (hf : es.all (fun x => Nat.blt x.1 ops.size) = true := by rfl) : COa ⟨Try.prog, n, S0, O0, w0, m0, Bs, ds⟩ fr ops base iL iA iS c0 c1 c2 tl i es Q := cg_end hi hM hp hc hn hb hf
theorem omh {f : FuncId} {args args0 : List PV} {r : PV} (hs : see ops.toList iS es base = some pre := by exact rfl) (hj : nth nums (iS + 1) = some j := by exact rfl) (h : ∀ rest, cms ops.toList n iS (pre ++ rest) = some (t, f, args) := by exact fun _ => rfl) (hcl : Gm Try.prog f args0 [c1] r [c2]) (hes : snocK es (iS, t, r) some = some es' := by exact rfl) (hc : COh ⟨Try.prog, n, S0, O0, w0, m0, Bs, ds⟩ fr ops base iS c1 c2 tl j es' Q) (hargs : args = PV.rens (fun b => [0].getD b 0) args0 := by rfl) (h1 : PV.rens (fun b => [0].getD b 0) c1 = c1 := by rfl) (h2 : PV.rens (fun b => [0].getD b 0) c2 = c2 := by rfl) (hra : PV.refsBs 1 args0 = true := by rfl) (hrm : PV.refsBs 1 c1 = true := by rfl) (hr : r.ren (fun b => [0].getD b 0) = r := by rfl) : COh ⟨Try.prog, n, S0, O0, w0, m0, Bs, ds⟩ fr ops base iS c1 c2 tl iS es Q :=
 oPutH hs hj hes hc fun rest _ hg => gMs [0] (h rest) hcl hargs (by decide) (by simp) (by simp only [List.map_cons, List.map_nil, h1]; rfl) hra (by simp only [List.all_cons, List.all_nil, Bool.and_true]; exact hrm) rfl hr (by simp only [List.map_cons, List.map_nil, h2]; rfl) hg
end
end
section
def pairB : D → Bool
 | .agg [.str a, .str b] => Nat.ble a.size 140737488355328 && Nat.ble b.size 140737488355328
 | _ => false
theorem laid : laidOutB Try.prog = true := by kernel_rfl
theorem C9 : KC Try.prog 9 strB := strKC u9
theorem C225 : KC Try.prog 115 pairB where
 law := deep_law_laid laid (m := 2) (by decide) (oR (by kernel_rfl)) (by kernel_rfl) (by kernel_rfl)
 ok k hk := by
  unfold pairB at hk
  split at hk
  · rename_i a b
    rw [Bool.and_eq_true] at hk
    have ha := Nat.le_of_ble_eq_true hk.1
    have hb := Nat.le_of_ble_eq_true hk.2
    suffices h : ∃ l, keyOf Try.prog 115 (.agg #[.string a, .string b]) = some l by
     obtain ⟨l, hl⟩ := h
     exact ⟨⟨_, l, rfl, hl⟩, by intro h; cases h⟩
    have h9 : ∀ (d : Nat) (s : ByteArray), s.size ≤ 140737488355328 → Try.prog.keyLits (d + 1) 9 [.string s] = some [.string s.data.toList] := fun d s hs => by
     have h1 : s.size ≤ maxLen := Nat.le_trans hs (by decide)
     simp only [Program.keyLits, u9, if_pos h1]
    have hsz : Try.prog.types.size = (Try.prog.types.size - 1) + 1 := by kernel_rfl
    have hc9 : Try.prog.cellsOf 9 = 1 := by kernel_rfl
    have hc : Try.prog.cellsOf 115 = 2 := by kernel_rfl
    unfold keyOf
    rw [u115]
    dsimp only
    rw [if_pos (by kernel_rfl), hsz]
    unfold Program.keyLits
    rw [u115]
    refine ⟨.string (keyBytes [.string a.data.toList, .string b.data.toList]), ?_⟩
    show Option.map (fun ls => Lit.string (keyBytes ls)) (if [Value.string a, Value.string b].length = Try.prog.cellsOf 115 then Option.map List.flatten (List.mapM (fun i => Try.prog.keyLits (Try.prog.types.size - 1 + 1) 9 (List.take (Try.prog.cellsOf 9) (List.drop (i * Try.prog.cellsOf 9) [Value.string a, Value.string b]))) (List.range 2)) else none) = _
    rw [hc, hc9]
    simp [List.range, List.range.loop, h9 _ _ ha, h9 _ _ hb]
  · cases hk
end
section
abbrev kk (a b : ByteArray) : D := .agg [.str a, .str b]
def rm0 : List (List PV) := [mpc [] [], [.mref 0]]
def rm1 : List (List PV) := [mpc [kk ⟨#[117, 110, 97, 114, 121]⟩ ⟨#[45]⟩] [.mref 3], [.mref 0], [.d (.str ⟨#[117, 110, 97, 114, 121]⟩), .d (.str ⟨#[45]⟩)], mpc [.str ⟨#[105, 110, 116]⟩] [.d (.str ⟨#[105, 110, 116]⟩)]]
def rm2 : List (List PV) := [mpc [kk ⟨#[117, 110, 97, 114, 121]⟩ ⟨#[45]⟩, kk ⟨#[117, 110, 97, 114, 121]⟩ ⟨#[33]⟩] [.mref 3, .mref 5], [.mref 0], [.d (.str ⟨#[117, 110, 97, 114, 121]⟩), .d (.str ⟨#[45]⟩)], mpc [.str ⟨#[105, 110, 116]⟩] [.d (.str ⟨#[105, 110, 116]⟩)], [.d (.str ⟨#[117, 110, 97, 114, 121]⟩), .d (.str ⟨#[33]⟩)], mpc [.str ⟨#[98, 111, 111, 108]⟩] [.d (.str ⟨#[98, 111, 111, 108]⟩)]]
def rm3 : List (List PV) := [mpc [kk ⟨#[117, 110, 97, 114, 121]⟩ ⟨#[45]⟩, kk ⟨#[117, 110, 97, 114, 121]⟩ ⟨#[33]⟩, kk ⟨#[98, 105, 110, 97, 114, 121]⟩ ⟨#[43]⟩, kk ⟨#[98, 105, 110, 97, 114, 121]⟩ ⟨#[45]⟩, kk ⟨#[98, 105, 110, 97, 114, 121]⟩ ⟨#[42]⟩, kk ⟨#[98, 105, 110, 97, 114, 121]⟩ ⟨#[47]⟩, kk ⟨#[98, 105, 110, 97, 114, 121]⟩ ⟨#[37]⟩] [.mref 3, .mref 5, .mref 7, .mref 9, .mref 11, .mref 13, .mref 15], [.mref 0], [.d (.str ⟨#[117, 110, 97, 114, 121]⟩), .d (.str ⟨#[45]⟩)], mpc [.str ⟨#[105, 110, 116]⟩] [.d (.str ⟨#[105, 110, 116]⟩)], [.d (.str ⟨#[117, 110, 97, 114, 121]⟩), .d (.str ⟨#[33]⟩)], mpc [.str ⟨#[98, 111, 111, 108]⟩] [.d (.str ⟨#[98, 111, 111, 108]⟩)], [.d (.str ⟨#[98, 105, 110, 97, 114, 121]⟩), .d (.str ⟨#[43]⟩)], mpc [.str ⟨#[105, 110, 116, 32, 105, 110, 116]⟩] [.d (.str ⟨#[105, 110, 116]⟩)], [.d (.str ⟨#[98, 105, 110, 97, 114, 121]⟩), .d (.str ⟨#[45]⟩)], mpc [.str ⟨#[105, 110, 116, 32, 105, 110, 116]⟩] [.d (.str ⟨#[105, 110, 116]⟩)], [.d (.str ⟨#[98, 105, 110, 97, 114, 121]⟩), .d (.str ⟨#[42]⟩)], mpc [.str ⟨#[105, 110, 116, 32, 105, 110, 116]⟩] [.d (.str ⟨#[105, 110, 116]⟩)], [.d (.str ⟨#[98, 105, 110, 97, 114, 121]⟩), .d (.str ⟨#[47]⟩)], mpc [.str ⟨#[105, 110, 116, 32, 105, 110, 116]⟩] [.d (.str ⟨#[105, 110, 116]⟩)], [.d (.str ⟨#[98, 105, 110, 97, 114, 121]⟩), .d (.str ⟨#[37]⟩)], mpc [.str ⟨#[105, 110, 116, 32, 105, 110, 116]⟩] [.d (.str ⟨#[105, 110, 116]⟩)]]
def rm4 : List (List PV) := [mpc [kk ⟨#[117, 110, 97, 114, 121]⟩ ⟨#[45]⟩, kk ⟨#[117, 110, 97, 114, 121]⟩ ⟨#[33]⟩, kk ⟨#[98, 105, 110, 97, 114, 121]⟩ ⟨#[43]⟩, kk ⟨#[98, 105, 110, 97, 114, 121]⟩ ⟨#[45]⟩, kk ⟨#[98, 105, 110, 97, 114, 121]⟩ ⟨#[42]⟩, kk ⟨#[98, 105, 110, 97, 114, 121]⟩ ⟨#[47]⟩, kk ⟨#[98, 105, 110, 97, 114, 121]⟩ ⟨#[37]⟩, kk ⟨#[98, 105, 110, 97, 114, 121]⟩ ⟨#[61, 61]⟩, kk ⟨#[98, 105, 110, 97, 114, 121]⟩ ⟨#[33, 61]⟩, kk ⟨#[98, 105, 110, 97, 114, 121]⟩ ⟨#[60]⟩, kk ⟨#[98, 105, 110, 97, 114, 121]⟩ ⟨#[60, 61]⟩, kk ⟨#[98, 105, 110, 97, 114, 121]⟩ ⟨#[62]⟩, kk ⟨#[98, 105, 110, 97, 114, 121]⟩ ⟨#[62, 61]⟩] [.mref 3, .mref 5, .mref 7, .mref 9, .mref 11, .mref 13, .mref 15, .mref 17, .mref 19, .mref 21, .mref 23, .mref 25, .mref 27], [.mref 0], [.d (.str ⟨#[117, 110, 97, 114, 121]⟩), .d (.str ⟨#[45]⟩)], mpc [.str ⟨#[105, 110, 116]⟩] [.d (.str ⟨#[105, 110, 116]⟩)], [.d (.str ⟨#[117, 110, 97, 114, 121]⟩), .d (.str ⟨#[33]⟩)], mpc [.str ⟨#[98, 111, 111, 108]⟩] [.d (.str ⟨#[98, 111, 111, 108]⟩)], [.d (.str ⟨#[98, 105, 110, 97, 114, 121]⟩), .d (.str ⟨#[43]⟩)], mpc [.str ⟨#[105, 110, 116, 32, 105, 110, 116]⟩] [.d (.str ⟨#[105, 110, 116]⟩)], [.d (.str ⟨#[98, 105, 110, 97, 114, 121]⟩), .d (.str ⟨#[45]⟩)], mpc [.str ⟨#[105, 110, 116, 32, 105, 110, 116]⟩] [.d (.str ⟨#[105, 110, 116]⟩)], [.d (.str ⟨#[98, 105, 110, 97, 114, 121]⟩), .d (.str ⟨#[42]⟩)], mpc [.str ⟨#[105, 110, 116, 32, 105, 110, 116]⟩] [.d (.str ⟨#[105, 110, 116]⟩)], [.d (.str ⟨#[98, 105, 110, 97, 114, 121]⟩), .d (.str ⟨#[47]⟩)], mpc [.str ⟨#[105, 110, 116, 32, 105, 110, 116]⟩] [.d (.str ⟨#[105, 110, 116]⟩)], [.d (.str ⟨#[98, 105, 110, 97, 114, 121]⟩), .d (.str ⟨#[37]⟩)], mpc [.str ⟨#[105, 110, 116, 32, 105, 110, 116]⟩] [.d (.str ⟨#[105, 110, 116]⟩)], [.d (.str ⟨#[98, 105, 110, 97, 114, 121]⟩), .d (.str ⟨#[61, 61]⟩)], mpc [.str ⟨#[105, 110, 116, 32, 105, 110, 116]⟩] [.d (.str ⟨#[98, 111, 111, 108]⟩)], [.d (.str ⟨#[98, 105, 110, 97, 114, 121]⟩), .d (.str ⟨#[33, 61]⟩)], mpc [.str ⟨#[105, 110, 116, 32, 105, 110, 116]⟩] [.d (.str ⟨#[98, 111, 111, 108]⟩)], [.d (.str ⟨#[98, 105, 110, 97, 114, 121]⟩), .d (.str ⟨#[60]⟩)], mpc [.str ⟨#[105, 110, 116, 32, 105, 110, 116]⟩] [.d (.str ⟨#[98, 111, 111, 108]⟩)], [.d (.str ⟨#[98, 105, 110, 97, 114, 121]⟩), .d (.str ⟨#[60, 61]⟩)], mpc [.str ⟨#[105, 110, 116, 32, 105, 110, 116]⟩] [.d (.str ⟨#[98, 111, 111, 108]⟩)], [.d (.str ⟨#[98, 105, 110, 97, 114, 121]⟩), .d (.str ⟨#[62]⟩)], mpc [.str ⟨#[105, 110, 116, 32, 105, 110, 116]⟩] [.d (.str ⟨#[98, 111, 111, 108]⟩)], [.d (.str ⟨#[98, 105, 110, 97, 114, 121]⟩), .d (.str ⟨#[62, 61]⟩)], mpc [.str ⟨#[105, 110, 116, 32, 105, 110, 116]⟩] [.d (.str ⟨#[98, 111, 111, 108]⟩)]]
def rm5 : List (List PV) := [mpc [kk ⟨#[117, 110, 97, 114, 121]⟩ ⟨#[45]⟩, kk ⟨#[117, 110, 97, 114, 121]⟩ ⟨#[33]⟩, kk ⟨#[98, 105, 110, 97, 114, 121]⟩ ⟨#[43]⟩, kk ⟨#[98, 105, 110, 97, 114, 121]⟩ ⟨#[45]⟩, kk ⟨#[98, 105, 110, 97, 114, 121]⟩ ⟨#[42]⟩, kk ⟨#[98, 105, 110, 97, 114, 121]⟩ ⟨#[47]⟩, kk ⟨#[98, 105, 110, 97, 114, 121]⟩ ⟨#[37]⟩, kk ⟨#[98, 105, 110, 97, 114, 121]⟩ ⟨#[61, 61]⟩, kk ⟨#[98, 105, 110, 97, 114, 121]⟩ ⟨#[33, 61]⟩, kk ⟨#[98, 105, 110, 97, 114, 121]⟩ ⟨#[60]⟩, kk ⟨#[98, 105, 110, 97, 114, 121]⟩ ⟨#[60, 61]⟩, kk ⟨#[98, 105, 110, 97, 114, 121]⟩ ⟨#[62]⟩, kk ⟨#[98, 105, 110, 97, 114, 121]⟩ ⟨#[62, 61]⟩, kk ⟨#[98, 105, 110, 97, 114, 121]⟩ ⟨#[38, 38]⟩, kk ⟨#[98, 105, 110, 97, 114, 121]⟩ ⟨#[124, 124]⟩] [.mref 3, .mref 5, .mref 7, .mref 9, .mref 11, .mref 13, .mref 15, .mref 17, .mref 19, .mref 21, .mref 23, .mref 25, .mref 27, .mref 31, .mref 33], [.mref 0], [.d (.str ⟨#[117, 110, 97, 114, 121]⟩), .d (.str ⟨#[45]⟩)], mpc [.str ⟨#[105, 110, 116]⟩] [.d (.str ⟨#[105, 110, 116]⟩)], [.d (.str ⟨#[117, 110, 97, 114, 121]⟩), .d (.str ⟨#[33]⟩)], mpc [.str ⟨#[98, 111, 111, 108]⟩] [.d (.str ⟨#[98, 111, 111, 108]⟩)], [.d (.str ⟨#[98, 105, 110, 97, 114, 121]⟩), .d (.str ⟨#[43]⟩)], mpc [.str ⟨#[105, 110, 116, 32, 105, 110, 116]⟩] [.d (.str ⟨#[105, 110, 116]⟩)], [.d (.str ⟨#[98, 105, 110, 97, 114, 121]⟩), .d (.str ⟨#[45]⟩)], mpc [.str ⟨#[105, 110, 116, 32, 105, 110, 116]⟩] [.d (.str ⟨#[105, 110, 116]⟩)], [.d (.str ⟨#[98, 105, 110, 97, 114, 121]⟩), .d (.str ⟨#[42]⟩)], mpc [.str ⟨#[105, 110, 116, 32, 105, 110, 116]⟩] [.d (.str ⟨#[105, 110, 116]⟩)], [.d (.str ⟨#[98, 105, 110, 97, 114, 121]⟩), .d (.str ⟨#[47]⟩)], mpc [.str ⟨#[105, 110, 116, 32, 105, 110, 116]⟩] [.d (.str ⟨#[105, 110, 116]⟩)], [.d (.str ⟨#[98, 105, 110, 97, 114, 121]⟩), .d (.str ⟨#[37]⟩)], mpc [.str ⟨#[105, 110, 116, 32, 105, 110, 116]⟩] [.d (.str ⟨#[105, 110, 116]⟩)], [.d (.str ⟨#[98, 105, 110, 97, 114, 121]⟩), .d (.str ⟨#[61, 61]⟩)], mpc [.str ⟨#[105, 110, 116, 32, 105, 110, 116]⟩, .str ⟨#[98, 111, 111, 108, 32, 98, 111, 111, 108]⟩] [.d (.str ⟨#[98, 111, 111, 108]⟩), .d (.str ⟨#[98, 111, 111, 108]⟩)], [.d (.str ⟨#[98, 105, 110, 97, 114, 121]⟩), .d (.str ⟨#[33, 61]⟩)], mpc [.str ⟨#[105, 110, 116, 32, 105, 110, 116]⟩, .str ⟨#[98, 111, 111, 108, 32, 98, 111, 111, 108]⟩] [.d (.str ⟨#[98, 111, 111, 108]⟩), .d (.str ⟨#[98, 111, 111, 108]⟩)], [.d (.str ⟨#[98, 105, 110, 97, 114, 121]⟩), .d (.str ⟨#[60]⟩)], mpc [.str ⟨#[105, 110, 116, 32, 105, 110, 116]⟩] [.d (.str ⟨#[98, 111, 111, 108]⟩)], [.d (.str ⟨#[98, 105, 110, 97, 114, 121]⟩), .d (.str ⟨#[60, 61]⟩)], mpc [.str ⟨#[105, 110, 116, 32, 105, 110, 116]⟩] [.d (.str ⟨#[98, 111, 111, 108]⟩)], [.d (.str ⟨#[98, 105, 110, 97, 114, 121]⟩), .d (.str ⟨#[62]⟩)], mpc [.str ⟨#[105, 110, 116, 32, 105, 110, 116]⟩] [.d (.str ⟨#[98, 111, 111, 108]⟩)], [.d (.str ⟨#[98, 105, 110, 97, 114, 121]⟩), .d (.str ⟨#[62, 61]⟩)], mpc [.str ⟨#[105, 110, 116, 32, 105, 110, 116]⟩] [.d (.str ⟨#[98, 111, 111, 108]⟩)], [.d (.str ⟨#[98, 105, 110, 97, 114, 121]⟩), .d (.str ⟨#[61, 61]⟩)], [.d (.str ⟨#[98, 105, 110, 97, 114, 121]⟩), .d (.str ⟨#[33, 61]⟩)], [.d (.str ⟨#[98, 105, 110, 97, 114, 121]⟩), .d (.str ⟨#[38, 38]⟩)], mpc [.str ⟨#[98, 111, 111, 108, 32, 98, 111, 111, 108]⟩] [.d (.str ⟨#[98, 111, 111, 108]⟩)], [.d (.str ⟨#[98, 105, 110, 97, 114, 121]⟩), .d (.str ⟨#[124, 124]⟩)], mpc [.str ⟨#[98, 111, 111, 108, 32, 98, 111, 111, 108]⟩] [.d (.str ⟨#[98, 111, 111, 108]⟩)]]
set_option maxHeartbeats 4000000 in
theorem c280_0 : Gm Try.prog 95 [.d (.str ⟨#[117, 110, 97, 114, 121]⟩), .d (.str ⟨#[105, 110, 116]⟩), .d (.str ⟨#[105, 110, 116]⟩), .d (.sl [.str ⟨#[45]⟩]), .ref 1 0] rm0 (.tup []) rm1 := by
 refine gmB 2 Try.func95 Try.ntmps95 Try.results95 (fun S0 O0 w0 m0 hm0 => ?_)
 unfold rm0
 repeat' first | refine st (by exact rfl) ?_ | refine me (by exact rfl) ?_ | refine lo C225 (hg := ?_) | refine mu C225 (hg := ?_) | refine mu C9 (hg := ?_) | refine el (by exact rfl) rfl ?_ (by decide) | refine ct (by exact rfl) ?_ | refine cf (by exact rfl) ?_ | refine gRn 8 ?_ | fail
 exact Y2
set_option maxHeartbeats 4000000 in
theorem c280_1 : Gm Try.prog 95 [.d (.str ⟨#[117, 110, 97, 114, 121]⟩), .d (.str ⟨#[98, 111, 111, 108]⟩), .d (.str ⟨#[98, 111, 111, 108]⟩), .d (.sl [.str ⟨#[33]⟩]), .ref 1 0] rm1 (.tup []) rm2 := by
 refine gmB 4 Try.func95 Try.ntmps95 Try.results95 (fun S0 O0 w0 m0 hm0 => ?_)
 unfold rm1
 repeat' first | refine st (by exact rfl) ?_ | refine me (by exact rfl) ?_ | refine lo C225 (hg := ?_) | refine mu C225 (hg := ?_) | refine mu C9 (hg := ?_) | refine el (by exact rfl) rfl ?_ (by decide) | refine ct (by exact rfl) ?_ | refine cf (by exact rfl) ?_ | refine gRn 8 ?_ | fail
 exact Y2
set_option maxHeartbeats 4000000 in
theorem c280_2 : Gm Try.prog 95 [.d (.str ⟨#[98, 105, 110, 97, 114, 121]⟩), .d (.str ⟨#[105, 110, 116]⟩), .d (.str ⟨#[105, 110, 116, 32, 105, 110, 116]⟩), .d (.sl [.str ⟨#[43]⟩, .str ⟨#[45]⟩, .str ⟨#[42]⟩, .str ⟨#[47]⟩, .str ⟨#[37]⟩]), .ref 1 0] rm2 (.tup []) rm3 := by
 refine gmB 6 Try.func95 Try.ntmps95 Try.results95 (fun S0 O0 w0 m0 hm0 => ?_)
 unfold rm2
 repeat' first | refine st (by exact rfl) ?_ | refine me (by exact rfl) ?_ | refine lo C225 (hg := ?_) | refine mu C225 (hg := ?_) | refine mu C9 (hg := ?_) | refine el (by exact rfl) rfl ?_ (by decide) | refine ct (by exact rfl) ?_ | refine cf (by exact rfl) ?_ | refine gRn 8 ?_ | fail
 exact Y2
set_option maxHeartbeats 4000000 in
theorem c280_3 : Gm Try.prog 95 [.d (.str ⟨#[98, 105, 110, 97, 114, 121]⟩), .d (.str ⟨#[98, 111, 111, 108]⟩), .d (.str ⟨#[105, 110, 116, 32, 105, 110, 116]⟩), .d (.sl [.str ⟨#[61, 61]⟩, .str ⟨#[33, 61]⟩, .str ⟨#[60]⟩, .str ⟨#[60, 61]⟩, .str ⟨#[62]⟩, .str ⟨#[62, 61]⟩]), .ref 1 0] rm3 (.tup []) rm4 := by
 refine gmB 16 Try.func95 Try.ntmps95 Try.results95 (fun S0 O0 w0 m0 hm0 => ?_)
 unfold rm3
 repeat' first | refine st (by exact rfl) ?_ | refine me (by exact rfl) ?_ | refine lo C225 (hg := ?_) | refine mu C225 (hg := ?_) | refine mu C9 (hg := ?_) | refine el (by exact rfl) rfl ?_ (by decide) | refine ct (by exact rfl) ?_ | refine cf (by exact rfl) ?_ | refine gRn 8 ?_ | fail
 exact Y2
set_option maxHeartbeats 4000000 in
theorem c280_4 : Gm Try.prog 95 [.d (.str ⟨#[98, 105, 110, 97, 114, 121]⟩), .d (.str ⟨#[98, 111, 111, 108]⟩), .d (.str ⟨#[98, 111, 111, 108, 32, 98, 111, 111, 108]⟩), .d (.sl [.str ⟨#[61, 61]⟩, .str ⟨#[33, 61]⟩, .str ⟨#[38, 38]⟩, .str ⟨#[124, 124]⟩]), .ref 1 0] rm4 (.tup []) rm5 := by
 refine gmB 28 Try.func95 Try.ntmps95 Try.results95 (fun S0 O0 w0 m0 hm0 => ?_)
 unfold rm4
 repeat' first | refine st (by exact rfl) ?_ | refine me (by exact rfl) ?_ | refine lo C225 (hg := ?_) | refine mu C225 (hg := ?_) | refine mu C9 (hg := ?_) | refine el (by exact rfl) rfl ?_ (by decide) | refine ct (by exact rfl) ?_ | refine cf (by exact rfl) ?_ | refine gRn 8 ?_ | fail
 exact Y2
end
end Go.Proofs.Ytklkbfpjimeaoaa
