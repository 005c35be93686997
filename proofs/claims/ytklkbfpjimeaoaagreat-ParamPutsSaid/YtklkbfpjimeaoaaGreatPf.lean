/- Contracts of functions. Conditions: none. -/
import Derived.Test.YtklkbfpjimeaoaaGreatPe
namespace Go.Proofs.YtklkbfpjimeaoaaGreat
open Go Go.Proofs.YtklkbfpjimeaoaaGreat.E
/-- The rule for nodes of an Op: the names, whether a Num may be, the function and what it captures, what it computes. -/
structure Sh where
  names : Option (ByteArray × List ByteArray)
  num : Bool
  g : Nat
  caps : List D
  ok : Tr → Bool
def namesD : Option (ByteArray × List ByteArray) → D
  | none => .nilS
  | some x => .sl ((x.1 :: x.2).map .str)
def Sh.d (s : Sh) : D := .agg [namesD s.names, .bool s.num, .fn (.func s.g) [] s.caps]
def shapeTab : List (Int × Sh) :=
  [(1, ⟨none, true, 229, [.ptr (.sl ([⟨#[]⟩].map .str))], (formsB [⟨#[]⟩])⟩),
   (2, ⟨none, true, 154, [], rule154⟩),
   (5, ⟨(some (⟨#[45]⟩, [⟨#[33]⟩])), false, 229, [.ptr (.sl ([⟨#[101]⟩].map .str))], (formsB [⟨#[101]⟩])⟩),
   (6, ⟨(some (⟨#[43]⟩, [⟨#[45]⟩, ⟨#[42]⟩, ⟨#[47]⟩, ⟨#[37]⟩, ⟨#[61, 61]⟩, ⟨#[33, 61]⟩, ⟨#[60]⟩, ⟨#[60, 61]⟩, ⟨#[62]⟩, ⟨#[62, 61]⟩, ⟨#[38, 38]⟩, ⟨#[124, 124]⟩])), false, 229, [.ptr (.sl ([⟨#[101, 101]⟩].map .str))], (formsB [⟨#[101, 101]⟩])⟩),
   (7, ⟨none, false, 229, [.ptr (.sl ([⟨#[101, 101]⟩].map .str))], (formsB [⟨#[101, 101]⟩])⟩),
   (8, ⟨none, false, 229, [.ptr (.sl ([⟨#[101, 101]⟩].map .str))], (formsB [⟨#[101, 101]⟩])⟩),
   (9, ⟨none, false, 229, [.ptr (.sl ([⟨#[101, 101]⟩].map .str))], (formsB [⟨#[101, 101]⟩])⟩),
   (10, ⟨none, false, 229, [.ptr (.sl ([⟨#[101]⟩, ⟨#[101, 101]⟩].map .str))], (formsB [⟨#[101]⟩, ⟨#[101, 101]⟩])⟩),
   (12, ⟨none, false, 229, [.ptr (.sl ([⟨#[101, 101]⟩, ⟨#[101, 101, 101]⟩].map .str))], (formsB [⟨#[101, 101]⟩, ⟨#[101, 101, 101]⟩])⟩),
   (14, ⟨(some (⟨#[115, 105, 122, 101]⟩, [⟨#[108, 111, 119]⟩, ⟨#[104, 105, 103, 104]⟩, ⟨#[115, 116, 114, 105, 100, 101]⟩, ⟨#[100, 111, 109, 97, 105, 110]⟩])), false, 229, [.ptr (.sl ([⟨#[101]⟩].map .str))], (formsB [⟨#[101]⟩])⟩),
   (16, ⟨none, false, 229, [.ptr (.sl ([⟨#[]⟩].map .str))], (formsB [⟨#[]⟩])⟩),
   (17, ⟨none, false, 229, [.ptr (.sl ([⟨#[]⟩].map .str))], (formsB [⟨#[]⟩])⟩),
   (18, ⟨(some (⟨#[43]⟩, [⟨#[42]⟩, ⟨#[109, 105, 110]⟩, ⟨#[109, 97, 120]⟩])), false, 229, [.ptr (.sl ([⟨#[101]⟩].map .str))], (formsB [⟨#[101]⟩])⟩),
   (19, ⟨none, false, 229, [.ptr (.sl ([⟨#[101, 101, 101]⟩].map .str))], (formsB [⟨#[101, 101, 101]⟩])⟩),
   (31, ⟨none, false, 229, [.ptr (.sl ([⟨#[101]⟩].map .str))], (formsB [⟨#[101]⟩])⟩),
   (67, ⟨(some (⟨#[43]⟩, [⟨#[42]⟩, ⟨#[109, 105, 110]⟩, ⟨#[109, 97, 120]⟩, ⟨#[38, 38]⟩, ⟨#[124, 124]⟩])), false, 229, [.ptr (.sl ([⟨#[110]⟩].map .str))], (formsB [⟨#[110]⟩])⟩),
   (51, ⟨(some (⟨#[61]⟩, [⟨#[43, 61]⟩, ⟨#[45, 61]⟩, ⟨#[42, 61]⟩])), false, 155, [], rule155⟩),
   (52, ⟨none, false, 229, [.ptr (.sl ([⟨#[101, 98]⟩, ⟨#[101, 98, 98]⟩].map .str))], (formsB [⟨#[101, 98]⟩, ⟨#[101, 98, 98]⟩])⟩),
   (53, ⟨none, false, 229, [.ptr (.sl ([⟨#[101, 98]⟩].map .str))], (formsB [⟨#[101, 98]⟩])⟩),
   (60, ⟨none, false, 229, [.ptr (.sl ([⟨#[101, 98]⟩].map .str))], (formsB [⟨#[101, 98]⟩])⟩),
   (54, ⟨none, true, 157, [], rule157⟩),
   (56, ⟨none, true, 157, [], rule157⟩),
   (55, ⟨none, true, 157, [], rule157⟩),
   (57, ⟨none, false, 229, [.ptr (.sl ([⟨#[98]⟩].map .str))], (formsB [⟨#[98]⟩])⟩),
   (59, ⟨none, false, 229, [.ptr (.sl ([⟨#[98]⟩].map .str))], (formsB [⟨#[98]⟩])⟩),
   (58, ⟨none, false, 158, [], rule158⟩),
   (61, ⟨none, false, 229, [.ptr (.sl ([⟨#[]⟩, ⟨#[101]⟩].map .str))], (formsB [⟨#[]⟩, ⟨#[101]⟩])⟩),
   (62, ⟨none, false, 229, [.ptr (.sl ([⟨#[101]⟩].map .str))], (formsB [⟨#[101]⟩])⟩),
   (65, ⟨none, false, 229, [.ptr (.sl ([⟨#[101]⟩].map .str))], (formsB [⟨#[101]⟩])⟩),
   (63, ⟨none, false, 161, [], rule161⟩),
   (64, ⟨none, false, 162, [], (fun t => everyB (fun op => isExprB op || op == 3) t.kids)⟩),
   (66, ⟨none, false, 164, [], (fun t => everyB isStmtB t.kids)⟩),
   (0, ⟨none, false, 152, [], (fun _ => true)⟩)]
def shapesM : List (D × D) := shapeTab.map fun x => (.int .i64 x.1, x.2.d)
def shGet (op : Int) : Option Sh := (shapeTab.find? fun x => decide (x.1 = op)).map (·.2)
theorem key_i64 (a b : Int) : D.keyEq (.int .i64 a) (.int .i64 b) = decide (a = b) := by simp [D.keyEq]
theorem find_sh (op : Int) : shapesM.find? (fun x => x.1.keyEq (.int .i64 op)) = (shapeTab.find? fun x => decide (x.1 = op)).map fun x => (D.int .i64 x.1, x.2.d) := by
  have h : ((fun x : D × D => x.1.keyEq (.int .i64 op)) ∘ fun x : Int × Sh => (D.int .i64 x.1, x.2.d)) = fun x => decide (x.1 = op) := by funext x; exact key_i64 _ _
  unfold shapesM
  rw [List.find?_map, h]
theorem mget_sh (op : Int) (z : D) : mget shapesM (.int .i64 op) z = match shGet op with | some s => s.d | none => z := by
  unfold mget shGet
  rw [find_sh]
  cases shapeTab.find? (fun x => decide (x.1 = op)) <;> rfl
theorem mhas_sh (op : Int) : mhas shapesM (.int .i64 op) = (shGet op).isSome := by
  have h : ((fun x : D × D => x.1.keyEq (.int .i64 op)) ∘ fun x : Int × Sh => (D.int .i64 x.1, x.2.d)) = fun x => decide (x.1 = op) := by funext x; exact key_i64 _ _
  unfold mhas shGet shapesM
  rw [List.any_map, h, Option.isSome_map, Bool.eq_iff_iff, List.any_eq_true, List.find?_isSome]
theorem shapeTab_ok : ∀ x ∈ shapeTab, ∀ t : Tr, t.Ok → Pf Tryz.prog x.2.g ([] ++ [t.d] ++ x.2.caps) (.d (.bool (x.2.ok t))) := by
  intro x hx t hok
  simp only [shapeTab, List.mem_cons, List.not_mem_nil, or_false] at hx
  rcases hx with rfl | rfl | rfl | rfl | rfl | rfl | rfl | rfl | rfl | rfl | rfl | rfl | rfl | rfl | rfl | rfl | rfl | rfl | rfl | rfl | rfl | rfl | rfl | rfl | rfl | rfl | rfl | rfl | rfl | rfl | rfl | rfl | rfl
  · exact c229 t [⟨#[]⟩] hok (by decide)
  · exact c154 t
  · exact c229 t [⟨#[101]⟩] hok (by decide)
  · exact c229 t [⟨#[101, 101]⟩] hok (by decide)
  · exact c229 t [⟨#[101, 101]⟩] hok (by decide)
  · exact c229 t [⟨#[101, 101]⟩] hok (by decide)
  · exact c229 t [⟨#[101, 101]⟩] hok (by decide)
  · exact c229 t [⟨#[101]⟩, ⟨#[101, 101]⟩] hok (by decide)
  · exact c229 t [⟨#[101, 101]⟩, ⟨#[101, 101, 101]⟩] hok (by decide)
  · exact c229 t [⟨#[101]⟩] hok (by decide)
  · exact c229 t [⟨#[]⟩] hok (by decide)
  · exact c229 t [⟨#[]⟩] hok (by decide)
  · exact c229 t [⟨#[101]⟩] hok (by decide)
  · exact c229 t [⟨#[101, 101, 101]⟩] hok (by decide)
  · exact c229 t [⟨#[101]⟩] hok (by decide)
  · exact c229 t [⟨#[110]⟩] hok (by decide)
  · exact c155 t hok
  · exact c229 t [⟨#[101, 98]⟩, ⟨#[101, 98, 98]⟩] hok (by decide)
  · exact c229 t [⟨#[101, 98]⟩] hok (by decide)
  · exact c229 t [⟨#[101, 98]⟩] hok (by decide)
  · exact c157 t hok
  · exact c157 t hok
  · exact c157 t hok
  · exact c229 t [⟨#[98]⟩] hok (by decide)
  · exact c229 t [⟨#[98]⟩] hok (by decide)
  · exact c158 t hok
  · exact c229 t [⟨#[]⟩, ⟨#[101]⟩] hok (by decide)
  · exact c229 t [⟨#[101]⟩] hok (by decide)
  · exact c229 t [⟨#[101]⟩] hok (by decide)
  · exact c161 t hok
  · exact c162 t hok
  · exact c164 t hok
  · exact c152 t
theorem shGet_ok {op : Int} {s : Sh} (h : shGet op = some s) {t : Tr} (hok : t.Ok) : Pf Tryz.prog s.g ([] ++ [t.d] ++ s.caps) (.d (.bool (s.ok t))) := by
  unfold shGet at h
  cases hf : shapeTab.find? (fun x => decide (x.1 = op)) with
  | none => rw [hf] at h; cases h
  | some x =>
    rw [hf] at h
    injection h with h; subst h
    exact shapeTab_ok x (List.mem_of_find?_eq_some hf) t hok
set_option maxHeartbeats 40000000 in
theorem c86  : Pf Tryz.prog 86 [] (.d (.map shapesM)) := by
  refine pf_body (rvs := [.tmp 0]) [] Tryz.func86 Tryz.ntmps86 Tryz.results86 (fun S0 O0 w0 m0 hm0 => ?_)
  refine G_seq ?_
  refine g_region ?_
  refine sv rfl (y_assign) ?_
  refine GOps_nil ?_
  refine thn_normal ?_
  refine G_seq ?_
  refine g_region ?_
  refine sv rfl (y_assign) ?_
  refine GOps_nil ?_
  refine thn_normal ?_
  refine G_seq ?_
  refine g_region ?_
  refine sv rfl (y_buildSlice (xs := [.const (.string ⟨#[101, 101]⟩)]) Tryz.underlying63 inf9) ?_
  refine g_call (xs := [.tmp 4]) rfl (c153 [⟨#[101, 101]⟩]) ?_
  refine sv rfl (y_assign) ?_
  refine GOps_nil ?_
  refine thn_normal ?_
  refine G_seq ?_
  refine g_region ?_
  refine sv rfl (y_buildSlice (xs := [.const (.string ⟨#[101, 98]⟩)]) Tryz.underlying63 inf9) ?_
  refine g_call (xs := [.tmp 6]) rfl (c153 [⟨#[101, 98]⟩]) ?_
  refine sv rfl (y_assign) ?_
  refine GOps_nil ?_
  refine thn_normal ?_
  refine G_seq ?_
  refine g_region ?_
  refine sv rfl y_makeMap ?_
  refine sv rfl (y_buildSlice (xs := [.const (.string ⟨#[]⟩)]) Tryz.underlying63 inf9) ?_
  refine g_call (xs := [.tmp 9]) rfl (c153 [⟨#[]⟩]) ?_
  refine sv rfl (Yld_pure rfl (of_decide_eq_true rfl) (q_buildP pl189 zr189)) ?_
  refine sa rfl (d_insert Tryz.underlying127 Tryz.underlying3) ?_
  refine g_keepo [8, 1, 2, 3] ?_
  refine sv rfl (Yld_pure rfl (of_decide_eq_true rfl) (q_buildP pl189 zr189)) ?_
  refine sa rfl (d_insert Tryz.underlying127 Tryz.underlying3) ?_
  refine g_keepo [8, 1, 2, 3] ?_
  refine sv rfl (y_buildSlice (xs := [.const (.string ⟨#[45]⟩), .const (.string ⟨#[33]⟩)]) Tryz.underlying63 inf9) ?_
  refine sv rfl (y_buildSlice (xs := [.const (.string ⟨#[101]⟩)]) Tryz.underlying63 inf9) ?_
  refine g_call (xs := [.tmp 14]) rfl (c153 [⟨#[101]⟩]) ?_
  refine sv rfl (y_buildS pl189 zr189) ?_
  refine sa rfl (d_insert Tryz.underlying127 Tryz.underlying3) ?_
  refine g_keepo [8, 1, 2, 3] ?_
  refine sv rfl (y_buildSlice (xs := [.const (.string ⟨#[43]⟩), .const (.string ⟨#[45]⟩), .const (.string ⟨#[42]⟩), .const (.string ⟨#[47]⟩), .const (.string ⟨#[37]⟩), .const (.string ⟨#[61, 61]⟩), .const (.string ⟨#[33, 61]⟩), .const (.string ⟨#[60]⟩), .const (.string ⟨#[60, 61]⟩), .const (.string ⟨#[62]⟩), .const (.string ⟨#[62, 61]⟩), .const (.string ⟨#[38, 38]⟩), .const (.string ⟨#[124, 124]⟩)]) Tryz.underlying63 inf9) ?_
  refine sv rfl (y_move) ?_
  refine sv rfl (y_buildS pl189 zr189) ?_
  refine sa rfl (d_insert Tryz.underlying127 Tryz.underlying3) ?_
  refine g_keepo [8, 1, 2, 3] ?_
  refine sv rfl (y_move) ?_
  refine sv rfl (Yld_pure rfl (of_decide_eq_true rfl) (q_buildP pl189 zr189)) ?_
  refine sa rfl (d_insert Tryz.underlying127 Tryz.underlying3) ?_
  refine g_keepo [8, 1, 2, 3] ?_
  refine sv rfl (y_move) ?_
  refine sv rfl (Yld_pure rfl (of_decide_eq_true rfl) (q_buildP pl189 zr189)) ?_
  refine sa rfl (d_insert Tryz.underlying127 Tryz.underlying3) ?_
  refine g_keepo [8, 1, 2, 3] ?_
  refine sv rfl (y_move) ?_
  refine sv rfl (Yld_pure rfl (of_decide_eq_true rfl) (q_buildP pl189 zr189)) ?_
  refine sa rfl (d_insert Tryz.underlying127 Tryz.underlying3) ?_
  refine g_keepo [8, 1, 2, 3] ?_
  refine sv rfl (y_buildSlice (xs := [.const (.string ⟨#[101]⟩), .const (.string ⟨#[101, 101]⟩)]) Tryz.underlying63 inf9) ?_
  refine g_call (xs := [.tmp 26]) rfl (c153 [⟨#[101]⟩, ⟨#[101, 101]⟩]) ?_
  refine sv rfl (Yld_pure rfl (of_decide_eq_true rfl) (q_buildP pl189 zr189)) ?_
  refine sa rfl (d_insert Tryz.underlying127 Tryz.underlying3) ?_
  refine g_keepo [8, 1, 2, 3] ?_
  refine sv rfl (y_buildSlice (xs := [.const (.string ⟨#[101, 101]⟩), .const (.string ⟨#[101, 101, 101]⟩)]) Tryz.underlying63 inf9) ?_
  refine g_call (xs := [.tmp 29]) rfl (c153 [⟨#[101, 101]⟩, ⟨#[101, 101, 101]⟩]) ?_
  refine sv rfl (Yld_pure rfl (of_decide_eq_true rfl) (q_buildP pl189 zr189)) ?_
  refine sa rfl (d_insert Tryz.underlying127 Tryz.underlying3) ?_
  refine g_keepo [8, 1, 2, 3] ?_
  refine sv rfl (y_buildSlice (xs := [.const (.string ⟨#[115, 105, 122, 101]⟩), .const (.string ⟨#[108, 111, 119]⟩), .const (.string ⟨#[104, 105, 103, 104]⟩), .const (.string ⟨#[115, 116, 114, 105, 100, 101]⟩), .const (.string ⟨#[100, 111, 109, 97, 105, 110]⟩)]) Tryz.underlying63 inf9) ?_
  refine sv rfl (y_buildSlice (xs := [.const (.string ⟨#[101]⟩)]) Tryz.underlying63 inf9) ?_
  refine g_call (xs := [.tmp 33]) rfl (c153 [⟨#[101]⟩]) ?_
  refine sv rfl (y_buildS pl189 zr189) ?_
  refine sa rfl (d_insert Tryz.underlying127 Tryz.underlying3) ?_
  refine g_keepo [8, 1, 2, 3] ?_
  refine sv rfl (y_buildSlice (xs := [.const (.string ⟨#[]⟩)]) Tryz.underlying63 inf9) ?_
  refine g_call (xs := [.tmp 36]) rfl (c153 [⟨#[]⟩]) ?_
  refine sv rfl (Yld_pure rfl (of_decide_eq_true rfl) (q_buildP pl189 zr189)) ?_
  refine sa rfl (d_insert Tryz.underlying127 Tryz.underlying3) ?_
  refine g_keepo [8, 1, 2, 3] ?_
  refine sv rfl (y_buildSlice (xs := [.const (.string ⟨#[]⟩)]) Tryz.underlying63 inf9) ?_
  refine g_call (xs := [.tmp 39]) rfl (c153 [⟨#[]⟩]) ?_
  refine sv rfl (Yld_pure rfl (of_decide_eq_true rfl) (q_buildP pl189 zr189)) ?_
  refine sa rfl (d_insert Tryz.underlying127 Tryz.underlying3) ?_
  refine g_keepo [8, 1, 2, 3] ?_
  refine sv rfl (y_buildSlice (xs := [.const (.string ⟨#[43]⟩), .const (.string ⟨#[42]⟩), .const (.string ⟨#[109, 105, 110]⟩), .const (.string ⟨#[109, 97, 120]⟩)]) Tryz.underlying63 inf9) ?_
  refine sv rfl (y_buildSlice (xs := [.const (.string ⟨#[101]⟩)]) Tryz.underlying63 inf9) ?_
  refine g_call (xs := [.tmp 43]) rfl (c153 [⟨#[101]⟩]) ?_
  refine sv rfl (y_buildS pl189 zr189) ?_
  refine sa rfl (d_insert Tryz.underlying127 Tryz.underlying3) ?_
  refine g_keepo [8, 1, 2, 3] ?_
  refine sv rfl (y_buildSlice (xs := [.const (.string ⟨#[101, 101, 101]⟩)]) Tryz.underlying63 inf9) ?_
  refine g_call (xs := [.tmp 46]) rfl (c153 [⟨#[101, 101, 101]⟩]) ?_
  refine sv rfl (Yld_pure rfl (of_decide_eq_true rfl) (q_buildP pl189 zr189)) ?_
  refine sa rfl (d_insert Tryz.underlying127 Tryz.underlying3) ?_
  refine g_keepo [8, 1, 2, 3] ?_
  refine sv rfl (y_buildSlice (xs := [.const (.string ⟨#[101]⟩)]) Tryz.underlying63 inf9) ?_
  refine g_call (xs := [.tmp 49]) rfl (c153 [⟨#[101]⟩]) ?_
  refine sv rfl (Yld_pure rfl (of_decide_eq_true rfl) (q_buildP pl189 zr189)) ?_
  refine sa rfl (d_insert Tryz.underlying127 Tryz.underlying3) ?_
  refine g_keepo [8, 1, 2, 3] ?_
  refine sv rfl (y_buildSlice (xs := [.const (.string ⟨#[43]⟩), .const (.string ⟨#[42]⟩), .const (.string ⟨#[109, 105, 110]⟩), .const (.string ⟨#[109, 97, 120]⟩), .const (.string ⟨#[38, 38]⟩), .const (.string ⟨#[124, 124]⟩)]) Tryz.underlying63 inf9) ?_
  refine sv rfl (y_buildSlice (xs := [.const (.string ⟨#[110]⟩)]) Tryz.underlying63 inf9) ?_
  refine g_call (xs := [.tmp 53]) rfl (c153 [⟨#[110]⟩]) ?_
  refine sv rfl (y_buildS pl189 zr189) ?_
  refine sa rfl (d_insert Tryz.underlying127 Tryz.underlying3) ?_
  refine g_keepo [8, 1, 2, 3] ?_
  refine sv rfl (y_buildSlice (xs := [.const (.string ⟨#[61]⟩), .const (.string ⟨#[43, 61]⟩), .const (.string ⟨#[45, 61]⟩), .const (.string ⟨#[42, 61]⟩)]) Tryz.underlying63 inf9) ?_
  refine sv rfl (y_buildS pl189 zr189) ?_
  refine sa rfl (d_insert Tryz.underlying127 Tryz.underlying3) ?_
  refine g_keepo [8, 1, 2, 3] ?_
  refine sv rfl (y_buildSlice (xs := [.const (.string ⟨#[101, 98]⟩), .const (.string ⟨#[101, 98, 98]⟩)]) Tryz.underlying63 inf9) ?_
  refine g_call (xs := [.tmp 58]) rfl (c153 [⟨#[101, 98]⟩, ⟨#[101, 98, 98]⟩]) ?_
  refine sv rfl (Yld_pure rfl (of_decide_eq_true rfl) (q_buildP pl189 zr189)) ?_
  refine sa rfl (d_insert Tryz.underlying127 Tryz.underlying3) ?_
  refine g_keepo [8, 1, 2, 3] ?_
  refine sv rfl (y_move) ?_
  refine sv rfl (Yld_pure rfl (of_decide_eq_true rfl) (q_buildP pl189 zr189)) ?_
  refine sa rfl (d_insert Tryz.underlying127 Tryz.underlying3) ?_
  refine g_keepo [8, 1, 2, 3] ?_
  refine sv rfl (y_move) ?_
  refine sv rfl (Yld_pure rfl (of_decide_eq_true rfl) (q_buildP pl189 zr189)) ?_
  refine sa rfl (d_insert Tryz.underlying127 Tryz.underlying3) ?_
  refine g_keepo [8, 1, 2, 3] ?_
  refine sv rfl (Yld_pure rfl (of_decide_eq_true rfl) (q_buildP pl189 zr189)) ?_
  refine sa rfl (d_insert Tryz.underlying127 Tryz.underlying3) ?_
  refine g_keepo [8, 1, 2, 3] ?_
  refine sv rfl (Yld_pure rfl (of_decide_eq_true rfl) (q_buildP pl189 zr189)) ?_
  refine sa rfl (d_insert Tryz.underlying127 Tryz.underlying3) ?_
  refine g_keepo [8, 1, 2, 3] ?_
  refine sv rfl (Yld_pure rfl (of_decide_eq_true rfl) (q_buildP pl189 zr189)) ?_
  refine sa rfl (d_insert Tryz.underlying127 Tryz.underlying3) ?_
  refine g_keepo [8, 1, 2, 3] ?_
  refine sv rfl (y_buildSlice (xs := [.const (.string ⟨#[98]⟩)]) Tryz.underlying63 inf9) ?_
  refine g_call (xs := [.tmp 68]) rfl (c153 [⟨#[98]⟩]) ?_
  refine sv rfl (Yld_pure rfl (of_decide_eq_true rfl) (q_buildP pl189 zr189)) ?_
  refine sa rfl (d_insert Tryz.underlying127 Tryz.underlying3) ?_
  refine g_keepo [8, 1, 2, 3] ?_
  refine sv rfl (y_buildSlice (xs := [.const (.string ⟨#[98]⟩)]) Tryz.underlying63 inf9) ?_
  refine g_call (xs := [.tmp 71]) rfl (c153 [⟨#[98]⟩]) ?_
  refine sv rfl (Yld_pure rfl (of_decide_eq_true rfl) (q_buildP pl189 zr189)) ?_
  refine sa rfl (d_insert Tryz.underlying127 Tryz.underlying3) ?_
  refine g_keepo [8, 1, 2, 3] ?_
  refine sv rfl (Yld_pure rfl (of_decide_eq_true rfl) (q_buildP pl189 zr189)) ?_
  refine sa rfl (d_insert Tryz.underlying127 Tryz.underlying3) ?_
  refine g_keepo [8, 1, 2, 3] ?_
  refine sv rfl (y_buildSlice (xs := [.const (.string ⟨#[]⟩), .const (.string ⟨#[101]⟩)]) Tryz.underlying63 inf9) ?_
  refine g_call (xs := [.tmp 75]) rfl (c153 [⟨#[]⟩, ⟨#[101]⟩]) ?_
  refine sv rfl (Yld_pure rfl (of_decide_eq_true rfl) (q_buildP pl189 zr189)) ?_
  refine sa rfl (d_insert Tryz.underlying127 Tryz.underlying3) ?_
  refine g_keepo [8, 1, 2, 3] ?_
  refine sv rfl (y_buildSlice (xs := [.const (.string ⟨#[101]⟩)]) Tryz.underlying63 inf9) ?_
  refine g_call (xs := [.tmp 78]) rfl (c153 [⟨#[101]⟩]) ?_
  refine sv rfl (Yld_pure rfl (of_decide_eq_true rfl) (q_buildP pl189 zr189)) ?_
  refine sa rfl (d_insert Tryz.underlying127 Tryz.underlying3) ?_
  refine g_keepo [8, 1, 2, 3] ?_
  refine sv rfl (y_buildSlice (xs := [.const (.string ⟨#[101]⟩)]) Tryz.underlying63 inf9) ?_
  refine g_call (xs := [.tmp 81]) rfl (c153 [⟨#[101]⟩]) ?_
  refine sv rfl (Yld_pure rfl (of_decide_eq_true rfl) (q_buildP pl189 zr189)) ?_
  refine sa rfl (d_insert Tryz.underlying127 Tryz.underlying3) ?_
  refine g_keepo [8, 1, 2, 3] ?_
  refine sv rfl (Yld_pure rfl (of_decide_eq_true rfl) (q_buildP pl189 zr189)) ?_
  refine sa rfl (d_insert Tryz.underlying127 Tryz.underlying3) ?_
  refine g_keepo [8, 1, 2, 3] ?_
  refine sv rfl (Yld_pure rfl (of_decide_eq_true rfl) (q_buildP pl189 zr189)) ?_
  refine sa rfl (d_insert Tryz.underlying127 Tryz.underlying3) ?_
  refine g_keepo [8, 1, 2, 3] ?_
  refine sv rfl (Yld_pure rfl (of_decide_eq_true rfl) (q_buildP pl189 zr189)) ?_
  refine sa rfl (d_insert Tryz.underlying127 Tryz.underlying3) ?_
  refine g_keepo [8, 1, 2, 3] ?_
  refine sv rfl (y_move) ?_
  refine sv rfl (Yld_pure rfl (of_decide_eq_true rfl) (q_buildP pl189 zr189)) ?_
  refine sa rfl (d_insert Tryz.underlying127 Tryz.underlying3) ?_
  refine g_keepo [8, 1, 2, 3] ?_
  refine sv rfl (y_move) ?_
  refine sv rfl (y_assign) ?_
  refine g_freezeM 0 [] rfl ?_
  refine GOps_nil ?_
  refine thn_normal ?_
  refine G_ret ?_
  refine fin1 (by simp) ?_
  exact ⟨rfl, rfl⟩
end Go.Proofs.YtklkbfpjimeaoaaGreat
