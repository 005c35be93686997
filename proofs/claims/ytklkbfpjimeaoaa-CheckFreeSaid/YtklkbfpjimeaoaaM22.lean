import Derived.Test.YtklkbfpjimeaoaaM21
import Derived.Test.YtklkbfpjimeaoaaM20
import Derived.Test.YtklkbfpjimeaoaaM11
import Derived.Test.YtklkbfpjimeaoaaM10
import Derived.Test.YtklkbfpjimeaoaaM17
import Derived.Defers
import Derived.Recover
import Derived.Tactics
import Derived.Tactics2
import Derived.Laws.Pointers
/- Contracts of functions. Conditions: none. -/
set_option linter.unusedSimpArgs false
set_option linter.unusedVariables false
set_option maxRecDepth 20000
namespace Go.Proofs.Ytklkbfpjimeaoaa
open Go Go.Proofs.Ytklkbfpjimeaoaa.E
section
def rulesM : List (D × D) := [(kk ⟨#[117, 110, 97, 114, 121]⟩ ⟨#[45]⟩, .map [(.str ⟨#[105, 110, 116]⟩, .str ⟨#[105, 110, 116]⟩)]),
 (kk ⟨#[117, 110, 97, 114, 121]⟩ ⟨#[33]⟩, .map [(.str ⟨#[98, 111, 111, 108]⟩, .str ⟨#[98, 111, 111, 108]⟩)]),
 (kk ⟨#[98, 105, 110, 97, 114, 121]⟩ ⟨#[43]⟩, .map [(.str ⟨#[105, 110, 116, 32, 105, 110, 116]⟩, .str ⟨#[105, 110, 116]⟩)]),
 (kk ⟨#[98, 105, 110, 97, 114, 121]⟩ ⟨#[45]⟩, .map [(.str ⟨#[105, 110, 116, 32, 105, 110, 116]⟩, .str ⟨#[105, 110, 116]⟩)]),
 (kk ⟨#[98, 105, 110, 97, 114, 121]⟩ ⟨#[42]⟩, .map [(.str ⟨#[105, 110, 116, 32, 105, 110, 116]⟩, .str ⟨#[105, 110, 116]⟩)]),
 (kk ⟨#[98, 105, 110, 97, 114, 121]⟩ ⟨#[47]⟩, .map [(.str ⟨#[105, 110, 116, 32, 105, 110, 116]⟩, .str ⟨#[105, 110, 116]⟩)]),
 (kk ⟨#[98, 105, 110, 97, 114, 121]⟩ ⟨#[37]⟩, .map [(.str ⟨#[105, 110, 116, 32, 105, 110, 116]⟩, .str ⟨#[105, 110, 116]⟩)]),
 (kk ⟨#[98, 105, 110, 97, 114, 121]⟩ ⟨#[61, 61]⟩, .map [(.str ⟨#[105, 110, 116, 32, 105, 110, 116]⟩, .str ⟨#[98, 111, 111, 108]⟩), (.str ⟨#[98, 111, 111, 108, 32, 98, 111, 111, 108]⟩, .str ⟨#[98, 111, 111, 108]⟩)]),
 (kk ⟨#[98, 105, 110, 97, 114, 121]⟩ ⟨#[33, 61]⟩, .map [(.str ⟨#[105, 110, 116, 32, 105, 110, 116]⟩, .str ⟨#[98, 111, 111, 108]⟩), (.str ⟨#[98, 111, 111, 108, 32, 98, 111, 111, 108]⟩, .str ⟨#[98, 111, 111, 108]⟩)]),
 (kk ⟨#[98, 105, 110, 97, 114, 121]⟩ ⟨#[60]⟩, .map [(.str ⟨#[105, 110, 116, 32, 105, 110, 116]⟩, .str ⟨#[98, 111, 111, 108]⟩)]),
 (kk ⟨#[98, 105, 110, 97, 114, 121]⟩ ⟨#[60, 61]⟩, .map [(.str ⟨#[105, 110, 116, 32, 105, 110, 116]⟩, .str ⟨#[98, 111, 111, 108]⟩)]),
 (kk ⟨#[98, 105, 110, 97, 114, 121]⟩ ⟨#[62]⟩, .map [(.str ⟨#[105, 110, 116, 32, 105, 110, 116]⟩, .str ⟨#[98, 111, 111, 108]⟩)]),
 (kk ⟨#[98, 105, 110, 97, 114, 121]⟩ ⟨#[62, 61]⟩, .map [(.str ⟨#[105, 110, 116, 32, 105, 110, 116]⟩, .str ⟨#[98, 111, 111, 108]⟩)]),
 (kk ⟨#[98, 105, 110, 97, 114, 121]⟩ ⟨#[38, 38]⟩, .map [(.str ⟨#[98, 111, 111, 108, 32, 98, 111, 111, 108]⟩, .str ⟨#[98, 111, 111, 108]⟩)]),
 (kk ⟨#[98, 105, 110, 97, 114, 121]⟩ ⟨#[124, 124]⟩, .map [(.str ⟨#[98, 111, 111, 108, 32, 98, 111, 111, 108]⟩, .str ⟨#[98, 111, 111, 108]⟩)])]
set_option maxHeartbeats 4000000 in
theorem c220 : Pf Try.prog 83 [] (.d (.map rulesM)) := by
 refine pfb Try.func83 Try.ntmps83 Try.results83 (fun S0 O0 w0 m0 hm0 => ?_)
 repeat' first | refine st (by exact rfl) ?_ | refine bs (by exact rfl) ?_ | refine cm (by exact rfl) c280_0 ?_ | refine cm (by exact rfl) c280_1 ?_ | refine cm (by exact rfl) c280_2 ?_ | refine cm (by exact rfl) c280_3 ?_ | fail
 refine cm (by exact rfl) c280_4 ?_
 repeat' first | refine fm 2 strB (fun k h => (C9.ok k h).2) (hlo := by exact rfl) (hg := ?_) | refine fg 2 (by exact rfl) (hlo := by exact rfl) (hg := ?_) | fail
 refine st (by exact rfl) (st (by exact rfl) (st (by exact rfl) (st (by exact rfl) ?_)))
 refine st (by exact rfl) (st (by exact rfl) ?_)
 refine fg 1 (by exact rfl) ?_
 refine fm 0 pairB (fun k h => (C225.ok k h).2) (hg := ?_)
 repeat' first | refine st (by exact rfl) ?_ | fail
 exact Y1
end
section
def z0 : Tr := .mk 0 ⟨#[]⟩ 0 []
def evalT : Tr → List (ByteArray × Tr) → Tr × Int
 | .mk op name num ks, l =>
  if (nodeE (.mk op name num ks) != 0) = true then (z0, nodeE (.mk op name num ks))
  else if (!isExprB op) = true then (z0, 2)
  else if (!constsB l) = true then (z0, 1)
  else match (Tr.mk op name num ks).value (kl l) with
   | none => (z0, 140)
   | some v => (v, 0)
theorem nodeE_shaped {op : Int} {name : ByteArray} {num : Int} {ks : List Tr} (h : nodeE (.mk op name num ks) = 0) : (Tr.mk op name num ks).shaped = true := by
 rw [nodeE] at h
 split at h
 · rename_i h1
   rw [h] at h1
   cases h1
 · split at h
   · cases h
   · rename_i h2
     cases hs : (Tr.mk op name num ks).shaped with
     | true => rfl
     | false => rw [hs] at h2; simp at h2
mutual
/-- An expression whose largest parts with a value are replaced by it. -/
def Tr.expr : Tr → Tr
 | .mk op name num ks =>
  if (!isExprB op) = true then .mk op name num ks
  else if ((evalT (.mk op name num ks) []).2 == 0) = true then (evalT (.mk op name num ks) []).1 else .mk op name num (Tr.exprs ks)
def Tr.exprs : List Tr → List Tr
 | [] => []
 | k :: r => k.expr :: Tr.exprs r
end
theorem Tr.exprs_map (ks : List Tr) : Tr.exprs ks = ks.map Tr.expr := by
 induction ks with
 | nil => rw [Tr.exprs]; rfl
 | cons k r ih => rw [Tr.exprs, ih]; rfl
end
section
theorem lim_iff (t : Tr) : limitsE [t] = 0 ↔ (t.size : Int) ≤ 4000 ∧ t.depth ≤ 60 := by
 have hd := Tr.depth_bd t
 have hs : Tr.sizes [t] = t.size := by simp [Tr.sizes]
 have hp : Tr.deeps [t] 0 = t.depth := by
  rw [Tr.deeps, Tr.deeps, if_pos (by omega)]
 unfold limitsE
 rw [hs, hp]
 by_cases h1 : (t.size : Int) > 4000
 · rw [if_pos h1]; constructor
   · intro h; cases h
   · intro h; omega
 · rw [if_neg h1]
   by_cases h2 : t.depth > 60
   · rw [if_pos h2]; constructor
     · intro h; cases h
     · intro h; omega
   · rw [if_neg h2]; constructor
     · intro _; omega
     · intro _; rfl
def QT (t : Tr) : Prop := limitsE [t] = 0 ∧ t.shaped = true ∧ t.Ok
theorem QT.of {t : Tr} (h : nodeE t = 0) (hok : t.Ok) : QT t := by
 obtain ⟨op, nm, num, ks⟩ := t
 refine ⟨?_, nodeE_shaped h, hok⟩
 rw [nodeE] at h
 split at h
 · exact h
 · rename_i h1
   simpa using h1
variable {op num : Int} {nm : ByteArray} {ks : List Tr}
theorem nodeE_expr (h : QT (.mk op nm num ks)) (ho : isExprB op = true) : nodeE (.mk op nm num ks) = 0 := by
 rw [nodeE, if_neg (by rw [h.1]; decide), if_neg (by rw [ho, h.2.1]; simp)]
theorem kl_nil : kl [] = [] := rfl
def evR : Option Tr → Tr × Int
 | none => (z0, 140)
 | some v => (v, 0)
theorem evalT_expr (h : QT (.mk op nm num ks)) (ho : isExprB op = true) : evalT (.mk op nm num ks) [] = evR ((Tr.mk op nm num ks).value []) := by
 rw [evalT, nodeE_expr h ho, if_neg (by decide), ho, if_neg (by decide), badC_nil, if_neg (by decide), kl_nil]
 cases (Tr.mk op nm num ks).value [] <;> rfl
def exR (op : Int) (nm : ByteArray) (num : Int) (ks : List Tr) : Option Tr → Tr
 | none => .mk op nm num (ks.map Tr.expr)
 | some v => v
theorem expr_expr (h : QT (.mk op nm num ks)) (ho : isExprB op = true) : (Tr.mk op nm num ks).expr = exR op nm num ks ((Tr.mk op nm num ks).value []) := by
 rw [Tr.expr, ho, if_neg (by decide), evalT_expr h ho]
 cases (Tr.mk op nm num ks).value [] with
 | none => rw [Tr.exprs_map]; rfl
 | some v => rfl
variable {v : Tr}
theorem ValOk.shaped (h : ValOk v) : v.shaped = true := by
 rcases h with ⟨n, _, rfl⟩ | ⟨b, rfl⟩
 · rfl
 · cases b <;> rfl
theorem ValOk.okT (h : ValOk v) : v.Ok := by
 rcases h with ⟨n, hn, rfl⟩ | ⟨b, rfl⟩
 · refine .mk (by decide) (by decide) ?_ (by decide) (by simp)
   simpa [Lit.wf, IntKind.min, IntKind.max, IntKind.signed, IntKind.bits, wf64] using hn
 · cases b
   · exact .mk (by decide) (by decide) (by decide) (by decide) (by simp)
   · exact .mk (by decide) (by decide) (by decide) (by decide) (by simp)
theorem ValOk.one (h : ValOk v) : v.size = 1 := by
 rcases h with ⟨n, _, rfl⟩ | ⟨b, rfl⟩
 · rw [intT, Tr.size, Tr.sizes]
 · rw [boolT, Tr.size, Tr.sizes]
theorem ValOk.QT (h : ValOk v) : QT v := by
 refine ⟨?_, h.shaped, h.okT⟩
 rw [lim_iff, h.one]
 have := Tr.depth_bd v
 have := h.one
 omega
theorem ValOk.self (h : ValOk v) (l : KL) : v.value l = some v ∧ v.span l = noSP := by
 rcases h with ⟨n, _, rfl⟩ | ⟨b, rfl⟩
 · exact ⟨rfl, rfl⟩
 · exact ⟨rfl, rfl⟩
theorem ValOk.eval (h : ValOk v) : evalT v [] = (v, 0) ∧ v.expr = v := by
 have hq := h.QT
 have hv := (h.self []).1
 rcases h with ⟨n, hn, rfl⟩ | ⟨b, rfl⟩
 · refine ⟨?_, ?_⟩
   · rw [intT] at hq hv ⊢; rw [evalT_expr hq rfl, hv]; rfl
   · rw [intT] at hq hv ⊢; rw [expr_expr hq rfl, hv]; rfl
 · refine ⟨?_, ?_⟩
   · rw [boolT] at hq hv ⊢; rw [evalT_expr hq rfl, hv]; rfl
   · rw [boolT] at hq hv ⊢; rw [expr_expr hq rfl, hv]; rfl
theorem spans_get (l : KL) (ks : List Tr) : Tr.spans l ks = ks.map (Tr.span l) := by
 induction ks with
 | nil => rw [Tr.spans]; rfl
 | cons k r ih => rw [Tr.spans, ih]; rfl
theorem Tr.d_eta (t : Tr) : t.d = .agg [.int .i64 t.op, .str t.nm, .int .i64 t.nu, .sl (t.kids.map Tr.d)] := by
 obtain ⟨op, nm, num, ks⟩ := t
 exact Tr.d_mk ..
end
section
def loopsB (op num : Int) (n : Nat) : Bool := ((((op == 54 || op == 55) || op == 56) && decide (num ≥ 0)) && decide (num ≤ 2)) && decide ((n : Int) ≥ W (num + 2))
def hideK (nm : ByteArray) (l : KL) : KL := (nm, none) :: l
def bindK (ks : List Tr) (l : KL) : KL := ks.foldl (fun l k => hideK k.nm l) l
def keepsB (op num : Int) (n i : Nat) (k : Tr) : Bool := ((op == 51 && (i : Int) == 0) && k.op == 4) || (loopsB op num n && decide ((i : Int) < num))
mutual
def Tr.put : Tr → KL → Tr
 | .mk op nm num ks, l =>
  if (op == 4) = true then (match findK nm l with | some v => v | none => .mk op nm num ks)
  else if (op == 67) = true then .mk op nm num ks
  else .mk op nm num (Tr.puts op num ks l 0 l ks)
def Tr.puts (op num : Int) (all : List Tr) (l : KL) (i : Nat) (inner : KL) : List Tr → List Tr
 | [] => []
 | k :: r =>
  if keepsB op num all.length i k = true then k :: Tr.puts op num all l (i + 1) (if (k.op == 50) = true then hideK k.nm inner else inner) r
  else if (loopsB op num all.length && (i : Int) == W (num + 1)) = true then k.put (bindK (all.take num.toNat) inner) :: Tr.puts op num all l (i + 1) (if (k.op == 50) = true then hideK k.nm l else l) r
  else k.put inner :: Tr.puts op num all l (i + 1) (if (k.op == 50) = true then hideK k.nm inner else inner) r
end
def hideV (k : Tr) (l : KL) : KL := if (k.op == 50) = true then hideK k.nm l else l
def KLens (l : KL) : Prop := ∀ x ∈ l, ∀ t, x.2 = some t → t.Lens
theorem KLens.hide {l : KL} (h : KLens l) (nm : ByteArray) : KLens (hideK nm l) := fun x hx t ht => by
 rcases List.mem_cons.1 hx with rfl | hx
 · cases ht
 · exact h x hx t ht
theorem KLens.hideV {l : KL} (h : KLens l) (k : Tr) : KLens (hideV k l) := by
 unfold Go.Proofs.Ytklkbfpjimeaoaa.hideV
 split
 · exact h.hide _
 · exact h
end
section
theorem all_zip {α : Type} (q : α → Bool) : ∀ (xs : List α), (xs.zipIdx.all fun x => q x.1) = xs.all q := by
 intro xs
 rw [Bool.eq_iff_iff, List.all_eq_true, List.all_eq_true]
 constructor
 · intro h x hx
   obtain ⟨i, hi⟩ := List.getElem?_of_mem hx
   exact h (x, i) (List.mem_zipIdx_iff_getElem?.2 hi)
 · rintro h ⟨x, i⟩ hx
   exact h x (mG (List.mem_zipIdx_iff_getElem?.1 hx))
def allE (ks : List Tr) : Bool := ks.all fun k => isExprB k.op
theorem kidsB_e {s : ByteArray} (hs : ∀ i, i < s.size → s[i]! = 101) (ks : List Tr) : kidsB ks s = (decide (ks.length = s.size) && allE ks) := by
 unfold kidsB
 by_cases h : ks.length = s.size
 · rw [decide_eq_true h, Bool.true_and, Bool.true_and, allE, ← all_zip (fun k : Tr => isExprB k.op)]
   rw [Bool.eq_iff_iff, List.all_eq_true, List.all_eq_true]
   have hk : ∀ x ∈ ks.zipIdx, kindOk ((s[x.2]!).toNat : Nat) x.1.op = isExprB x.1.op := by
    rintro ⟨k, i⟩ hx
    have hi := (lG (List.mem_zipIdx_iff_getElem?.1 hx))
    show kindOk ((s[i]!).toNat : Nat) k.op = _
    rw [hs i (by omega)]
    rfl
   constructor
   · intro h x hx; rw [← hk x hx]; exact h x hx
   · intro h x hx; rw [hk x hx]; exact h x hx
 · rw [decide_eq_false h, Bool.false_and, Bool.false_and]
theorem e1s : ∀ i, i < e1.size → e1[i]! = 101 := by decide
theorem e2s : ∀ i, i < ee.size → ee[i]! = 101 := by decide
theorem e3s : ∀ i, i < eee.size → eee[i]! = 101 := by decide
theorem exs (n : Nat) : ∀ i, i < (eee.extract 0 n).size → (eee.extract 0 n)[i]! = 101 := by
 intro i hi
 have h3 : eee.size = 3 := rfl
 rw [ByteArray.size_extract] at hi
 have hlt : i < 3 := by omega
 have hn : i < n := by omega
 have hi' : i < (eee.extract 0 n).size := by rw [ByteArray.size_extract]; exact hi
 rw [getElem!_pos (eee.extract 0 n) i hi', ByteArray.getElem_extract]
 have h := e3s i (by rw [h3]; exact hlt)
 rw [getElem!_pos eee i (by rw [h3]; exact hlt)] at h
 simpa using h
def Kin (f : Tr → Tr) (ks : List Tr) : Prop := ∀ k ∈ ks, isExprB (f k).op = isExprB k.op ∧ ((f k).op == 30) = (k.op == 30)
variable {f : Tr → Tr} {ks : List Tr}
theorem Kin.allE (h : Kin f ks) : allE (ks.map f) = allE ks := by
 unfold Go.Proofs.Ytklkbfpjimeaoaa.allE
 rw [Bool.eq_iff_iff, List.all_map, List.all_eq_true, List.all_eq_true]
 constructor
 · intro h1 k hk; rw [← (h k hk).1]; exact h1 k hk
 · intro h1 k hk; show isExprB (f k).op = true; rw [(h k hk).1]; exact h1 k hk
theorem Kin.kidsB (h : Kin f ks) {s : ByteArray} (hs : ∀ i, i < s.size → s[i]! = 101) : kidsB (ks.map f) s = kidsB ks s := by
 rw [kidsB_e hs, kidsB_e hs, h.allE, List.length_map]
theorem Kin.every (h : Kin f ks) : everyB (fun op => isExprB op || op == 30) (ks.map f) = everyB (fun op => isExprB op || op == 30) ks := by
 unfold everyB
 rw [List.any_map]
 congr 1
 rw [Bool.eq_iff_iff, List.any_eq_true, List.any_eq_true]
 have he : ∀ k ∈ ks, ((fun k : Tr => !(isExprB k.op || k.op == 30)) ∘ f) k = !(isExprB k.op || k.op == 30) := fun k hk => by
  show (!(isExprB (f k).op || (f k).op == 30)) = _
  rw [(h k hk).1, (h k hk).2]
 constructor
 · rintro ⟨k, hk, h1⟩; exact ⟨k, hk, by rw [← he k hk]; exact h1⟩
 · rintro ⟨k, hk, h1⟩; exact ⟨k, hk, by rw [he k hk]; exact h1⟩
theorem Kin.forms (h : Kin f ks) {op num : Int} {nm : ByteArray} {ts : List ByteArray} (hs : ∀ s ∈ ts, ∀ i, i < s.size → s[i]! = 101) : formsB ts (.mk op nm num (ks.map f)) = formsB ts (.mk op nm num ks) := by
 unfold formsB
 rw [Bool.eq_iff_iff, List.any_eq_true, List.any_eq_true]
 constructor
 · rintro ⟨s, h1, h2⟩; exact ⟨s, h1, by rw [Tr.kids_mk] at h2 ⊢; rw [← h.kidsB (hs s h1)]; exact h2⟩
 · rintro ⟨s, h1, h2⟩; exact ⟨s, h1, by rw [Tr.kids_mk] at h2 ⊢; rw [h.kidsB (hs s h1)]; exact h2⟩
theorem Kin.tab (h : Kin f ks) {op num : Int} {nm : ByteArray} : ∀ x ∈ shapeTab, isExprB x.1 = true → x.2.ok (.mk op nm num (ks.map f)) = x.2.ok (.mk op nm num ks) := by
 intro x hx he
 simp only [shapeTab, List.mem_cons, List.not_mem_nil, or_false] at hx
 rcases hx with rfl | rfl | rfl | rfl | rfl | rfl | rfl | rfl | rfl | rfl | rfl | rfl | rfl | rfl | rfl | rfl | rfl | rfl | rfl | rfl | rfl | rfl | rfl | rfl | rfl | rfl | rfl | rfl | rfl | rfl | rfl | rfl | rfl <;> first | exact absurd he (by decide) | exact h.forms (by decide) | (show rule154 _ = rule154 _; unfold rule154; rw [Tr.kids_mk, Tr.kids_mk, List.length_map]; rfl)
theorem shGet_tab {op : Int} {s : Sh} (h : shGet op = some s) : ∃ x ∈ shapeTab, x.1 = op ∧ x.2 = s := by
 unfold shGet at h
 cases hf : shapeTab.find? (fun x => decide (x.1 = op)) with
 | none => rw [hf] at h; cases h
 | some x =>
  rw [hf] at h
  injection h with h
  exact ⟨x, List.mem_of_find?_eq_some hf, by simpa using List.find?_some hf, h⟩
theorem ne_of_expr {op k : Int} (ho : isExprB op = true) (hk : isExprB k = false) : (op == k) = false := by
 rw [beq_eq_false_iff_ne]
 rintro rfl
 rw [ho] at hk
 cases hk
theorem Kin.right (h : Kin f ks) {op num : Int} {nm : ByteArray} (ho : isExprB op = true) : rightB (.mk op nm num (ks.map f)) = rightB (.mk op nm num ks) := by
 have h2 : otherB (.mk op nm num (ks.map f)) = otherB (.mk op nm num ks) := by
  rw [otherB, otherB, h.every, h.kidsB (exs _), h.kidsB e2s, h.kidsB e1s, List.length_map, ne_of_expr ho (show isExprB 30 = false from rfl), ne_of_expr ho (show isExprB 50 = false from rfl)]
  simp only [Bool.false_eq_true, if_false]
 rw [rightB, rightB, h2]
 cases hs : shGet op with
 | none => rfl
 | some s =>
  obtain ⟨x, hx, rfl, rfl⟩ := shGet_tab hs
  have ht := h.tab (op := x.1) (num := num) (nm := nm) x hx ho
  obtain ⟨xo, nms, nb, g, caps, ok⟩ := x
  dsimp only at ht ⊢
  rw [ht]
theorem ValOk.ex {v : Tr} (h : ValOk v) : isExprB v.op = true ∧ (v.op == 30) = false := by
 rcases h with ⟨n, _, rfl⟩ | ⟨b, rfl⟩
 · exact ⟨rfl, rfl⟩
 · exact ⟨rfl, rfl⟩
mutual
/-- A Name that is used. -/
def Tr.uses (x : ByteArray) : Tr → Bool
 | .mk op nm _ ks => if (op == 4) = true then decide (nm = x) else Tr.usess x ks
def Tr.usess (x : ByteArray) : List Tr → Bool
 | [] => false
 | k :: r => k.uses x || Tr.usess x r
end
theorem kl_snoc (l : List (ByteArray × Tr)) (c : ByteArray × Tr) : kl (l ++ [c]) = (c.1, some c.2) :: kl l := by
 unfold kl
 rw [List.map_append, List.reverse_append]; rfl
end
section
theorem c176 (ts : List ByteArray) (v : ByteArray) (hlim : ts.length ≤ 140737488355328) : Pf Try.prog 61 [.sl (ts.map .str), .str v] (.d (.bool (hasB ts v))) := by
 refine pf_body (rvs := [.tmp 4]) [(0, .d (.sl (ts.map .str))), (1, .d (.str v))] Try.func61 Try.ntmps61 Try.results61 (fun S0 O0 w0 m0 hm0 => ?_)
 refine Z5 ?_;refine Z73 ?_;refine Z1 ?_;refine Z36 ?_
 refine g_loop (α := Nat) (fun z => ⟨[(5, .d (.int .i64 (z : Nat))), (1, .d (.str v)), (0, .d (.sl (ts.map .str)))], []⟩) (fun z => ts.length - z) (fun z => z ≤ ts.length ∧ ∀ i, i < z → ∀ x, ts[i]? = some x → (fun s => decide (v = s)) x = false) 0 ⟨Nat.zero_le _, by simp⟩ (fun z hz Q' hn0 he0 hr0 => ?_) (le_of)
 obtain ⟨hz1, hz2⟩ := hz
 refine Z59 ?_;refine Z76 ?_
 refine vq rfl (q_len u40) ?_
 refine Z40 ?_;refine Z12 ?_
 refine zgC ?_ ?_ <;> intro hb0
 ·
  have hlt : z < ts.length := by simpa using hb0
  obtain ⟨x, hx⟩ : ∃ x, ts[z]? = some x := ⟨_, gE hlt⟩
  have hmem := mG hx
  have hxd := strs_get hx
  refine Z27 ?_;refine Z76 ?_
  refine vq rfl (qI u40 sz9) ?_
  first | refine sv rfl (y_load_leaf u9) ?_ | refine vq rfl (qL u9) ?_
  refine Z2 ?_
  refine vq rfl q_streq ?_
  refine Z12 ?_
  refine zgC ?_ ?_ <;> intro hb1
  ·
   refine Z5 ?_;refine Z79 ?_;refine Z54 ?_;refine Z50 ?_;refine Z4 ?_
   exact ⟨by rw [show hasB ts v = true from List.any_eq_true.2 ⟨x, hmem, by have := oR hb1; exact decide_eq_true this.symm⟩], rfl⟩
  refine gK (bN (tN (gR ?_)))
  refine Z2 ?_;refine Z25 ?_;refine Z1 ?_;refine Z45 ?_
  refine hn0 _ (z + 1) ⟨by omega, idxL_step hz2 hx (by have := of_decide_eq_false hb1; exact decide_eq_false (fun e => this e.symm))⟩ (by omega) le_of
 have hge : z = ts.length := by
  have : ¬ (z : Int) < (ts.map D.str).length := by simpa using hb0
  rw [List.length_map] at this
  omega
 refine Z37 ?_;refine Z43 ?_;refine Z30 ?_;refine Z64 ?_
 exact ⟨by rw [show hasB ts v = false from List.any_eq_false.2 (fun x hx => by obtain ⟨i, hi⟩ := List.getElem?_of_mem hx; have := hz2 i (by have := (lG hi); omega) x hi; simpa using this)], rfl⟩
end
section
def ab (d : Int) : Int := if d < 0 then -d else d
structure GR (lo hi st a d c : Int) : Prop where
 hc : 1 ≤ c
 hd0 : d ≠ 0
 h1 : c = 1 → d = 1
 ha : -1000000 ≤ a ∧ a ≤ 1000000
 hl : -1000000 ≤ a + d * (c - 1) ∧ a + d * (c - 1) ≤ 1000000
 hlo : lo = if d < 0 then a + d * (c - 1) else a
 hhi : hi = if d < 0 then a else a + d * (c - 1)
 hst : st = d
def Good (lo hi st : Int) : Prop := (lo = 1 ∧ hi = 0 ∧ st = 1) ∨ ∃ a d c, GR lo hi st a d c
theorem W_id {n : Int} (h1 : -9223372036854775808 ≤ n) (h2 : n ≤ 9223372036854775807) : W n = n := wrap_i64 h1 h2
variable {d : Int}
theorem step_facts {k : Int} (hk : 0 ≤ k) (hd : d ≠ 0) (hb : -2000000 ≤ d * k ∧ d * k ≤ 2000000) : (0 < d → k ≤ d * k) ∧ (d < 0 → k ≤ -(d * k)) ∧ (1 ≤ k → -2000000 ≤ d ∧ d ≤ 2000000) ∧ (d * k = 0 ↔ k = 0) := by
 have hp : 0 < d → k ≤ d * k := fun h => by
  have := Int.mul_le_mul_of_nonneg_right (show 1 ≤ d by omega) hk
  omega
 have hn : d < 0 → k ≤ -(d * k) := fun h => by
  have := Int.mul_le_mul_of_nonneg_right (show 1 ≤ -d by omega) hk
  rw [Int.neg_mul] at this
  omega
 refine ⟨hp, hn, fun h => ?_, fun h => ?_, fun h => by rw [h, Int.mul_zero]⟩
 · rcases Int.lt_or_lt_of_ne hd with h2 | h2
   · have := Int.mul_le_mul_of_nonneg_left h (show 0 ≤ -d by omega)
     simp only [Int.neg_mul, Int.mul_one] at this
     omega
   · have := Int.mul_le_mul_of_nonneg_left h (show 0 ≤ d by omega)
     omega
 · rcases Int.mul_eq_zero.1 h with h | h
   · exact absurd h hd
   · exact h
variable {lo hi st a c : Int}
theorem GR.facts (h : GR lo hi st a d c) : (0 < d → c - 1 ≤ d * (c - 1)) ∧ (d < 0 → c - 1 ≤ -(d * (c - 1))) ∧ (-2000000 ≤ d ∧ d ≤ 2000000) ∧ (d * (c - 1) = 0 ↔ c - 1 = 0) ∧ c ≤ 2000001 := by
 have hc := h.hc
 have ha := h.ha
 have hl := h.hl
 obtain ⟨g1, g2, g3, g4⟩ := step_facts (show 0 ≤ c - 1 by omega) h.hd0 (by omega)
 refine ⟨g1, g2, ?_, g4, ?_⟩
 · by_cases hc1 : c = 1
   · have := h.h1 hc1; omega
   · exact g3 (by omega)
 · rcases Int.lt_or_lt_of_ne h.hd0 with h2 | h2
   · have := g2 h2; omega
   · have := g1 h2; omega
theorem GR.diff (h : GR lo hi st a d c) : hi - lo = ab d * (c - 1) ∧ 0 ≤ ab d * (c - 1) ∧ ab d * (c - 1) ≤ 2000000 := by
 obtain ⟨g1, g2, _⟩ := h.facts
 have hl := h.hl
 have ha := h.ha
 have hc := h.hc
 rw [h.hhi, h.hlo]
 unfold ab
 by_cases hd : d < 0
 · rw [if_pos hd, if_pos hd, if_pos hd, Int.neg_mul]
   have := g2 hd
   omega
 · rw [if_neg hd, if_neg hd, if_neg hd]
   have := g1 (by have := h.hd0; omega)
   omega
theorem ab_pos (h : d ≠ 0) : 0 < ab d := by unfold ab; split <;> omega
theorem stepS_ab (h : -2000000 ≤ d ∧ d ≤ 2000000) (h0 : d ≠ 0) : stepS d = ab d := by
 unfold stepS ab U IntKind.wrap
 simp only [IntKind.signed, IntKind.bits, Bool.false_and, Bool.false_eq_true, if_false]
 split <;> omega
theorem GR.check (h : GR lo hi st a d c) : checkS lo hi st = 0 := by
 obtain ⟨g1, g2, g3, g4, g5⟩ := h.facts
 obtain ⟨e1, e2, e3⟩ := h.diff
 have hl := h.hl
 have ha := h.ha
 have hc := h.hc
 have hd0 := h.hd0
 have hlo := h.hlo
 have hhi := h.hhi
 have hw : limS lo hi = 0 := by
  unfold limS withinB
  rw [if_neg]
  simp only [Bool.or_eq_true, Bool.not_eq_true', Bool.and_eq_false_iff, decide_eq_false_iff_not]
  by_cases hd : d < 0
  · rw [if_pos hd] at hlo hhi; omega
  · rw [if_neg hd] at hlo hhi; omega
 unfold checkS
 by_cases hc1 : c = 1
 · have hd := h.h1 hc1
   rw [if_neg]
   · exact hw
   · have hst := h.hst
     have : lo = hi := by
      have : c - 1 = 0 := by omega
      rw [this] at e1
      omega
     rw [this, hst, hd]; simp
 · have hlt : lo < hi := by
    have hp : 0 < ab d * (c - 1) := Int.mul_pos (ab_pos hd0) (by omega)
    omega
   have hmod : ((U (W (hi - lo))).tmod (stepS st) != 0) = false := by
    rw [h.hst, stepS_ab g3 hd0, W_id (by omega) (by omega), e1, show U (ab d * (c - 1)) = ab d * (c - 1) from by
     unfold U IntKind.wrap
     simp only [IntKind.signed, IntKind.bits, Bool.false_and, Bool.false_eq_true, if_false]
     omega, Int.mul_tmod_right]
    rfl
   split
   · rw [if_neg (by rw [h.hst]; simp; omega), hmod, if_neg (by decide)]
     exact hw
   · exact hw
theorem GR.series (h : GR lo hi st a d c) : seriesS lo hi st = (a, d, c) := by
 obtain ⟨g1, g2, g3, g4, g5⟩ := h.facts
 obtain ⟨e1, e2, e3⟩ := h.diff
 have hd0 := h.hd0
 have hlo := h.hlo
 have hhi := h.hhi
 have hc := h.hc
 have hst := h.hst
 have hab0 := ab_pos hd0
 have e4 : W (hi - lo) = ab d * (c - 1) := by rw [W_id (by omega) (by omega), e1]
 have e6 : W (W (c - 1) + 1) = c := by
  rw [W_id (n := c - 1) (by omega) (by omega), show c - 1 + 1 = c from by omega, W_id (by omega) (by omega)]
 unfold seriesS
 rw [if_neg (by omega), hst, e4]
 by_cases hd : d < 0
 · rw [if_pos hd] at hlo hhi
   have hab : ab d = -d := by unfold ab; rw [if_pos hd]
   have e5 : W (0 - d) = ab d := by rw [W_id (by omega) (by omega), hab]; omega
   rw [if_pos hd, e5, Int.mul_tdiv_cancel_left _ (by omega), e6, hhi]
 · rw [if_neg hd] at hlo hhi
   have hab : ab d = d := by unfold ab; rw [if_neg hd]
   rw [if_neg hd, hab, Int.mul_tdiv_cancel_left _ hd0, e6, hlo]
end
section
theorem GR.wf {lo hi st a d c : Int} (h : GR lo hi st a d c) : (-1000000 ≤ lo ∧ lo ≤ 1000000) ∧ (-1000000 ≤ hi ∧ hi ≤ 1000000) ∧ (-2000000 ≤ st ∧ st ≤ 2000000) ∧ st ≠ 0 ∧ lo ≤ hi ∧ (lo = hi → st = 1) ∧ hi % ab st = lo % ab st ∧ 0 < ab st ∧ ab st ≤ 2000000 := by
 obtain ⟨g1, g2, g3, g4, g5⟩ := h.facts
 obtain ⟨e1, e2, e3⟩ := h.diff
 have hl := h.hl
 have ha := h.ha
 have hlo := h.hlo
 have hhi := h.hhi
 have hst := h.hst
 have hd0 := h.hd0
 have hab := ab_pos hd0
 refine ⟨?_, ?_, by omega, by omega, by omega, fun he => ?_, ?_, by rw [hst]; exact hab, ?_⟩
 · split at hlo <;> omega
 · split at hhi <;> omega
 · rw [hst]
   apply h.h1
   have : ab d * (c - 1) = 0 := by omega
   rcases Int.mul_eq_zero.1 this with h1 | h1 <;> omega
 · rw [hst, show hi = lo + ab d * (c - 1) from by omega, Int.add_mul_emod_self_left]
 · rw [hst]; unfold ab; split <;> omega
end
section
theorem GR.size {lo hi st a d c : Int} (h : GR lo hi st a d c) : sizeS lo hi st = c := by
 rw [sizeS, h.check, if_neg (by decide), h.series]
theorem Good.size {lo hi st : Int} (h : Good lo hi st) : 0 ≤ sizeS lo hi st ∧ sizeS lo hi st ≤ 2000001 ∧ (sizeS lo hi st = 0 → lo = 1 ∧ hi = 0 ∧ st = 1) := by
 rcases h with ⟨rfl, rfl, rfl⟩ | ⟨a, d, c, hg⟩
 · decide
 · obtain ⟨_, _, _, _, g5⟩ := hg.facts
   have := hg.hc
   rw [hg.size]
   omega
end
section
def woL (l : List (ByteArray × Tr)) (nm : ByteArray) : List (ByteArray × Tr) := l.filter fun c => !decide (c.1 = nm)
end
section
def Agree (K : KL) (l : List (ByteArray × Tr)) : Prop := ∀ nm, findK nm K = findK nm (kl l)
theorem findK_filter (x nm : ByteArray) : ∀ K : KL, findK nm (K.filter fun c => !decide (c.1 = x)) = if x = nm then none else findK nm K
 | [] => by simp [findK]
 | c :: r => by
  rw [List.filter_cons]
  by_cases hc : c.1 = x
  · rw [if_neg (by simp [hc]), findK_filter x nm r]
    by_cases hx : x = nm
    · rw [if_pos hx, if_pos hx]
    · rw [if_neg hx, if_neg hx, findK, if_neg (by rw [hc]; exact hx)]
  · rw [if_pos (by simp [hc]), findK, findK, findK_filter x nm r]
    by_cases hx : x = nm
    · rw [if_pos hx, if_pos hx, if_neg (by rw [← hx]; exact hc)]
    · rw [if_neg hx, if_neg hx]
theorem kl_wo (l : List (ByteArray × Tr)) (x : ByteArray) : kl (woL l x) = (kl l).filter fun c => !decide (c.1 = x) := by
 unfold kl woL
 rw [List.filter_reverse, List.filter_map]
 rfl
theorem Agree.hide {K : KL} {l : List (ByteArray × Tr)} (h : Agree K l) (x : ByteArray) : Agree (hideK x K) (woL l x) := fun nm => by
 rw [kl_wo, findK_filter, ← h nm]
 rfl
end
section
def x0 (xs : List (Tr × Bool)) (i : Nat) : Tr × Bool := xs.getD i (z0, false)
end
section
def KOkT (l : KL) : Prop := ∀ x ∈ l, ∀ t, x.2 = some t → t.Ok
theorem KOkT.hide {l : KL} (h : KOkT l) (nm : ByteArray) : KOkT (hideK nm l) := fun x hx t ht => by
 rcases List.mem_cons.1 hx with rfl | hx
 · cases ht
 · exact h x hx t ht
theorem KOkT.hideV {l : KL} (h : KOkT l) (k : Tr) : KOkT (hideV k l) := by
 unfold Go.Proofs.Ytklkbfpjimeaoaa.hideV
 split
 · exact h.hide _
 · exact h
end
section
def isVarP (op num : Int) : Bool := op == 50 && andI num 8 != 0
def intTy : ByteArray := ⟨#[105, 110, 116]⟩
def boolTy : ByteArray := ⟨#[98, 111, 111, 108]⟩
def wantB (op : Int) : ByteArray := if (op == 2) = true then boolTy else intTy
def lastV (l : KL) (ks : List Tr) : Option Tr := match ks.getLast? with
 | some k => k.value l
 | none => none
def unfit (ks : List Tr) (v : Tr) : Bool := match ks with
 | [] => true
 | t :: _ => t.op != 30 || !decide (t.nm = wantB v.op)
def staticV (l : KL) : Tr → Option Tr
 | .mk _ _ num ks =>
  if (andI num 2 == 0) = true then none
  else match lastV l ks with
   | none => none
   | some v => if (andI num 1 == 0) = true then some v else if unfit ks v = true then none else some v
def part (vs : List (Option Tr)) : Int := 2 - nuV (v0 vs 0)
mutual
/-- A statement without params, or an error. -/
def Tr.fold : Tr → KL → Tr × Int
 | .mk op nm num ks, l =>
  if (op == 52 && isV (v0 (Tr.values l ks) 0) 2) = true then
   (if decide (part (Tr.values l ks) < ks.length) = true then
    (if (((Tr.kblocks ks l).getD (part (Tr.values l ks)).toNat ([], 0)).2 != 0) = true then (z0, ((Tr.kblocks ks l).getD (part (Tr.values l ks)).toNat ([], 0)).2) else (.mk 66 ⟨#[]⟩ 0 ((Tr.kblocks ks l).getD (part (Tr.values l ks)).toNat ([], 0)).1, 0))
    else (.mk 66 ⟨#[]⟩ 0 [], 0))
  else if (op == 66) = true then (.mk 66 ⟨#[]⟩ 0 (Tr.block ks l).1, (Tr.block ks l).2)
  else if ((Tr.bodies ks (if loopsB op num ks.length = true then bindK (ks.take num.toNat) l else l) (Tr.puts op num ks l 0 l ks)).2 != 0) = true then (z0, (Tr.bodies ks (if loopsB op num ks.length = true then bindK (ks.take num.toNat) l else l) (Tr.puts op num ks l 0 l ks)).2)
  else (.mk op nm num (Tr.bodies ks (if loopsB op num ks.length = true then bindK (ks.take num.toNat) l else l) (Tr.puts op num ks l 0 l ks)).1, 0)
def Tr.kblock : Tr → KL → List Tr × Int
 | .mk _ _ _ ks, l => Tr.block ks l
def Tr.kblocks : List Tr → KL → List (List Tr × Int)
 | [], _ => []
 | k :: r, l => k.kblock l :: Tr.kblocks r l
/-- The Kids of a statement, those that are blocks folded. -/
def Tr.bodies : List Tr → KL → List Tr → List Tr × Int
 | [], _, _ => ([], 0)
 | k :: r, l, ps =>
  if (k.op != 66) = true then (ps.headD z0 :: (Tr.bodies r l ps.tail).1, (Tr.bodies r l ps.tail).2)
  else if ((k.kblock l).2 != 0) = true then ([], (k.kblock l).2)
  else (.mk 66 ⟨#[]⟩ 0 (k.kblock l).1 :: (Tr.bodies r l ps.tail).1, (Tr.bodies r l ps.tail).2)
def Tr.block : List Tr → KL → List Tr × Int
 | [], _ => ([], 0)
 | t :: r, l =>
  if isVarP t.op t.nu = true then (match staticV l t with
   | none => ([], 140)
   | some v => Tr.block r ((t.nm, some v) :: l))
  else if ((t.fold l).2 != 0) = true then ([], (t.fold l).2)
  else if ((Tr.block r (hideV t l)).2 != 0) = true then ([], (Tr.block r (hideV t l)).2)
  else ((t.fold l).1 :: (Tr.block r (hideV t l)).1, 0)
end
variable {l : KL}
theorem KOk.okT (h : KOk l) : KOkT l := fun x hx t ht => (h x hx t ht).okT
theorem KOk.cons (h : KOk l) (nm : ByteArray) {v : Tr} (hv : ValOk v) : KOk ((nm, some v) :: l) := fun x hx t ht => by
 rcases List.mem_cons.1 hx with rfl | hx
 · injection ht with ht; subst ht; exact hv
 · exact h x hx t ht
theorem KOk.hide (h : KOk l) (nm : ByteArray) : KOk (hideK nm l) := fun x hx t ht => by
 rcases List.mem_cons.1 hx with rfl | hx
 · cases ht
 · exact h x hx t ht
theorem KOk.hideV (h : KOk l) (k : Tr) : KOk (hideV k l) := by
 unfold Go.Proofs.Ytklkbfpjimeaoaa.hideV
 split
 · exact h.hide _
 · exact h
end
section
def BI (x y : List Tr × Int) (pre : List Tr) : Prop := x.2 = y.2 ∧ (x.2 = 0 → x.1 = pre ++ y.1)
theorem BI.keep {x : List Tr × Int} {k p : Tr} {r ps : List Tr} {l : KL} {pre : List Tr} (h : BI x (Tr.bodies (k :: r) l (p :: ps)) pre) (hk : (k.op != 66) = true) : BI x (Tr.bodies r l ps) (pre ++ [p]) := by
 rw [Tr.bodies, if_pos hk] at h
 exact ⟨h.1, fun h0 => by rw [h.2 h0, List.append_assoc]; rfl⟩
theorem BI.block {x : List Tr × Int} {k p : Tr} {r ps : List Tr} {l : KL} {pre : List Tr} (h : BI x (Tr.bodies (k :: r) l (p :: ps)) pre) (hk : (k.op != 66) = false) (he : ((k.kblock l).2 != 0) = false) : BI x (Tr.bodies r l ps) (pre ++ [.mk 66 ⟨#[]⟩ 0 (k.kblock l).1]) := by
 rw [Tr.bodies, if_neg (by rw [hk]; decide), if_neg (by rw [he]; decide)] at h
 exact ⟨h.1, fun h0 => by rw [h.2 h0, List.append_assoc]; rfl⟩
theorem kidsB_at {ks : List Tr} {s : ByteArray} (h : kidsB ks s = true) {i : Nat} {k : Tr} (hk : ks[i]? = some k) : kindOk ((s[i]!).toNat : Nat) k.op = true := by
 unfold kidsB at h
 rw [Bool.and_eq_true, List.all_eq_true] at h
 exact h.2 (k, i) (List.mem_zipIdx_iff_getElem?.2 hk)
end
section
variable {K : KL}
theorem value_agree {K' : KL} (h : ∀ nm, findK nm K = findK nm K') : ∀ n (t : Tr), t.size ≤ n → t.value K = t.value K' ∧ t.span K = t.span K' := by
 intro n
 induction n with
 | zero => intro t h; exact absurd t.size_pos (by omega)
 | succ n ih =>
  intro t hsz
  obtain ⟨op, nm, num, ks⟩ := t
  have hI : ∀ k ∈ ks, k.value K = k.value K' ∧ k.span K = k.span K' := fun k hk => ih k (by have := Tr.size_mem hk; rw [Tr.size] at hsz; omega)
  have hvs : Tr.values K ks = Tr.values K' ks := by
   rw [values_get, values_get]
   exact List.map_congr_left fun k hk => (hI k hk).1
  have hss : Tr.spans K ks = Tr.spans K' ks := by
   rw [spans_get, spans_get]
   exact List.map_congr_left fun k hk => (hI k hk).2
  rw [Tr.value, Tr.value, Tr.span, Tr.span, hvs, hss]
  refine ⟨?_, rfl⟩
  unfold valN
  rw [h nm]
theorem Agree.value {l : List (ByteArray × Tr)} (h : Agree K l) (t : Tr) : t.value (kl l) = t.value K := ((value_agree h t.size t (Nat.le_refl _)).1).symm
theorem Agree.cons {l : List (ByteArray × Tr)} (h : Agree K l) (nm : ByteArray) (v : Tr) : Agree ((nm, some v) :: K) (l ++ [(nm, v)]) := fun x => by
 rw [kl_snoc, findK, findK, h x]
theorem Agree.hideV {l : List (ByteArray × Tr)} (h : Agree K l) (t : Tr) : Agree (hideV t K) (if (t.op == 50) = true then woL l t.nm else l) := by
 unfold Go.Proofs.Ytklkbfpjimeaoaa.hideV
 cases t.op == 50
 · exact h
 · exact h.hide t.nm
def CV (n : Nat) (l : List (ByteArray × Tr)) : Prop := l.length ≤ n ∧ ∀ c ∈ l, ValOk c.2
theorem CV.mono {n m : Nat} {l : List (ByteArray × Tr)} (h : CV n l) (hm : n ≤ m) : CV m l := ⟨Nat.le_trans h.1 hm, h.2⟩
end
section
structure Fm where
 intent : ByteArray
 nm : ByteArray
 ty : Tr
structure Pc where
 nm : ByteArray
 iter : Bool
 priv : Bool
 formals : List Fm
 result : Tr
 wh : List Tr
 body : List Tr
structure Pg where
 globals : List Tr
 procs : List Pc
def Tr.cs (t : Tr) : List D := [.int .i64 t.op, .str t.nm, .int .i64 t.nu, .sl (t.kids.map Tr.d)]
def Fm.d (f : Fm) : D := .agg [.str f.intent, .str f.nm, .int .i64 f.ty.op, .str f.ty.nm, .int .i64 f.ty.nu, .sl (f.ty.kids.map Tr.d)]
def Pc.d (q : Pc) : D := .agg [.str q.nm, .bool q.iter, .bool q.priv, .sl (q.formals.map Fm.d), .int .i64 q.result.op, .str q.result.nm, .int .i64 q.result.nu, .sl (q.result.kids.map Tr.d), .sl (q.wh.map Tr.d), .sl (q.body.map Tr.d)]
def Pg.d (p : Pg) : D := .agg [.sl (p.globals.map Tr.d), .sl (p.procs.map Pc.d)]
def TsOk (l : List Tr) : Prop := l.length ≤ 140737488355328 ∧ ∀ t ∈ l, t.Ok
structure Fm.Ok (f : Fm) : Prop where
 i : f.intent.size ≤ 140737488355328
 n : f.nm.size ≤ 140737488355328
 t : f.ty.Ok
structure Pc.Ok (q : Pc) : Prop where
 n : q.nm.size ≤ 140737488355328
 fl : q.formals.length ≤ 140737488355328
 f : ∀ f ∈ q.formals, f.Ok
 r : q.result.Ok
 w : TsOk q.wh
 b : TsOk q.body
structure Pg.Ok (p : Pg) : Prop where
 g : TsOk p.globals
 pl : p.procs.length ≤ 140737488355328
 p : ∀ q ∈ p.procs, q.Ok
def Fm.long (f : Fm) : Bool := (decide ((f.intent.size : Int) > 300) || decide ((f.nm.size : Int) > 300)) || f.ty.long
def Pc.long (q : Pc) : Bool := (((decide ((q.nm.size : Int) > 300) || q.result.long) || q.wh.any Tr.long) || q.body.any Tr.long) || q.formals.any Fm.long
theorem t_eta (t : Tr) : t.d = .agg [.int .i64 t.op, .str t.nm, .int .i64 t.nu, .sl (t.kids.map Tr.d)] := t.d_eta
end
section
def fmHide (l : KL) : List Fm → KL
 | [] => l
 | f :: r => fmHide (hideK f.nm l) r
theorem KOk.fm : ∀ (l : List Fm) {c : KL}, KOk c → KOk (fmHide c l)
 | [], _, h => h
 | f :: r, _, h => by rw [fmHide]; exact KOk.fm r (h.hide _)
end
section
def sInt : ByteArray := ⟨#[105, 110, 116]⟩
def sBool : ByteArray := ⟨#[98, 111, 111, 108]⟩
structure Lc where
 nm : ByteArray
 ty : ByteArray
 con : Bool
 block : Int
 level : Int
def locD : List Lc → D
 | [] => .nil
 | x :: r => .ptr (.agg [.str x.nm, .str x.ty, .bool x.con, locD r, .int .i64 x.block, .int .i64 x.level])
def findL (nm : ByteArray) : List Lc → List Lc
 | [] => []
 | x :: r => if x.nm = nm then x :: r else findL nm r
theorem c200L (ls : List Lc) (nm : ByteArray) : Pf Try.prog 60 [locD ls, .str nm] (.d (locD (findL nm ls))) := by
 refine pfb Try.func60 Try.ntmps60 Try.results60 (fun S0 O0 w0 m0 hm0 => ?_)
 repeat' first | refine st (by exact rfl) ?_ | fail
 refine gLo (fun z : List Lc => ⟨[(0, .d (locD z)), (1, .d (.str nm))], []⟩) List.length (fun z => findL nm z = findL nm ls) ls rfl le_of (fun z hz Q' hn he hr hp => ?_)
 cases z with
 | nil =>
  dsimp only [locD]
  repeat' first | refine st (by exact rfl) ?_ | refine sk (by exact rfl) rfl ?_ | fail
  refine cf (by exact rfl) ?_ rfl
  repeat' first | refine st (by exact rfl) ?_ | fail
  refine toL (he _ _ ?_)
  repeat' first | refine st (by exact rfl) ?_ | fail
  exact en (by exact rfl) (by rw [← hz]; rfl)
 | cons x r =>
  dsimp only [locD]
  repeat' first | refine st (by exact rfl) ?_ | fail
  refine cd (by exact rfl) (fun hb => ?_) (fun hb => ?_)
  · repeat' first | refine st (by exact rfl) ?_ | fail
    rcases r with _ | ⟨y, r⟩
    · dsimp only [locD]
      repeat' first | refine st (by exact rfl) ?_ | fail
      refine toL (hn _ [] ?_ (Nat.lt_succ_self _) le_of)
      rw [← hz]
      exact (if_neg (by simpa using hb)).symm
    · dsimp only [locD]
      repeat' first | refine st (by exact rfl) ?_ | fail
      refine toL (hn _ (y :: r) ?_ (Nat.lt_succ_self _) le_of)
      rw [← hz]
      exact (if_neg (by simpa using hb)).symm
  · repeat' first | refine st (by exact rfl) ?_ | fail
    refine toL (he _ _ ?_)
    repeat' first | refine st (by exact rfl) ?_ | fail
    refine en (by exact rfl) ?_
    rw [← hz]
    show PV.d (locD (x :: r)) = PV.d (locD (if x.nm = nm then x :: r else findL nm r))
    rw [if_pos (by simpa using hb)]
end
section
theorem catch_idle (p : Addr) (w : World) : CallsD Try.prog 50 #[.pointer (some p)] .returning w fun e u' w' => e = .returned (.tuple #[]) ∧ u' = .returning ∧ w' = w := by
 refine callsD_of_wpS Try.func50 rfl fun c₀ cs hu => ?_
 apply wpS_seq
 apply wpS_region
 simp [wpOpsS, go_sem, recoverD, hu, Try.ntmps50, Exit.thenS]
 apply wpS_seq
 apply wpS_region
 simp [wpOpsS, go_sem, recoverD, hu, Try.ntmps50, Exit.thenS]
 refine wpS_cond (t := false) (by simp [Act.eval, Array.replicate]) ?_
 simp only [Bool.false_eq_true, if_false]
 refine wpS_of_wp (wp_skip ?_)
 cases c₀
 simp_all [bodyPostS, results, Try.results50]
theorem neqW (u : Value) (w : World) : (binOp .neq 20 (.iface 75 u) .nilIface).run Try.prog w = .ok (.bool true) w := by kernel_rfl
def wrongW (e : Int) : Value := .iface 75 (.agg #[.int .i64 e, .slice none 0 0])
set_option maxHeartbeats 1000000 in
theorem catch_rest (e : Int) {S : Reg} {O : Owns} {m : List Nat} {w : World} {B : List PV} (hm : m.length = 2) : ∀ c, (∃ b x, Try.prog.funcs[50]? = some b ∧ b.body = some (.seq x c)) →
 G ⟨Try.prog, 16, S, O, w, m, [], []⟩ c (fun ex s' => ex = .normal ∧ ∃ Y, s'.mem = [B, [.d (.int .i64 e), .d (.sl [])], Y]) ⟨[(0, .ref 1 0), (1, .d (.iface 75 (.agg [.int .i64 e, .sl []])))], [B, [.d (.int .i64 0), .nils]]⟩ := by
 rintro c ⟨b, x, hb, hc⟩
 rw [Try.func50] at hb
 injection hb with hb
 subst hb
 injection hc with hc
 injection hc with _ hc
 subst hc
 refine Z83 ?_
 refine vq rfl ((q_neqI neqW)) ?_
 refine Z12 ?_
 refine zgC ?_ ?_ <;> intro hb0
 ·
  refine Z83 ?_
  refine vq rfl ((q_tassert u75)) ?_
  refine Z2 ?_;refine Z29 ?_;refine Z29 ?_
  refine sv rfl (y_alloc zr75) ?_
  first | refine sa rfl (dS sz75) ?_ | refine sa rfl (d_store_take sz75) ?_
  refine Z73 ?_;refine Z2 ?_;refine Z34 ?_;refine Z12 ?_
  refine zgC ?_ ?_ <;> intro hb1
  · exact absurd hb1 (by decide)
  refine gK (tN (gR ?_))
  first | refine sv rfl (y_load_agg sz75 u75 rfl) ?_ | refine vq rfl (qG (by exact sz75) u75 rfl) ?_
  first | refine sa rfl (dS sz75) ?_ | refine sa rfl (d_store_take sz75) ?_
  refine Z45 ?_
  exact ⟨rfl, _, rfl⟩
 exact absurd hb0 (by decide)
theorem rd_nilS {w : World} {S : Reg} : Rd w S (.sl []) (.slice none 0 0) := .sl [] none 0 1 (Nat.le_refl _) (Nat.zero_le _) (by simp) (fun _ => rfl) (fun ad h => by cases h) (fun ad _ _ _ _ _ h => by cases h)
theorem rd_wrong {w : World} {S : Reg} (e : Int) : Rd w S (.iface 75 (.agg [.int .i64 e, .sl []])) (wrongW e) := .iface _ _ _ (.agg _ _ rfl (fun i v hv => by
 match i with
 | 0 => simp at hv; subst hv; rfl
 | 1 => simp at hv; subst hv; rfl
 | i + 2 => simp at hv) fun i d v hd hv => by
 match i with
 | 0 => simp at hd hv; subst hd; subst hv; exact .int _ _
 | 1 => simp at hd hv; subst hd; subst hv; exact rd_nilS
 | i + 2 => simp at hd)
set_option maxHeartbeats 1000000 in
theorem catch_panic (e : Int) {S : Reg} {O : Owns} {m : List Nat} {w : World} {b : D} (henv : Env S O w S O m [[.d b], [.d (.int .i64 0), .nils]] w) {r : Nat} (hr : m[1]? = some r) :
 CallsD Try.prog 50 #[.pointer (some ⟨r, 0, none⟩)] (.panicking (chain1 (wrongW e))) w fun en u' w' => en = .returned (.tuple #[]) ∧ u' = .panicking [{ v := wrongW e, recovered := true }] ∧
  ∃ S' O', Env S O w S' O' m [[.d b], [.d (.int .i64 e), .d (.sl [])]] w' := by
 refine callsD_of_wpS Try.func50 rfl fun c₀ cs hu => ?_
 apply wpS_seq
 apply wpS_region
 simp [wpOpsS, go_sem, recoverD, hu, Try.ntmps50, Exit.thenS, chain1]
 refine wpS_of_wp ?_
 have hm : m.length = 2 := henv.mlen
 refine wp_mono (catch_rest e (S := S) (O := O) (w := w) (B := [.d b]) hm _ ⟨_, _, Try.func50, rfl⟩ _ w ⟨S, O, m, henv, rfl, by simp, List.prefix_refl _, fun i p hp => ?_⟩) ?_
 · match i with
   | 0 => 
    have h1 : PV.ref 1 0 = p := by simpa [GS.get] using hp
    subst h1
    exact .ref _ 1 0 r hr
   | 1 =>
    have h1 : PV.d (.iface 75 (.agg [.int .i64 e, .sl []])) = p := by simpa [GS.get, List.lookup] using hp
    subst h1
    exact .d _ _ _ (rd_wrong e)
   | i + 2 => simp [GS.get, List.lookup] at hp
 · rintro ex a' w' ⟨s', ⟨rfl, Y, hY⟩, S', O', m', hr'⟩
   have henv' := hr'.env
   rw [hY] at henv'
   have h2 := henv'.less (mem' := [[.d b], [.d (.int .i64 e), .d (.sl [])]]) (.cons (.cons (.inl rfl) rfl .nil) (.cons (.cons (.inl rfl) rfl (.cons (.inl rfl) rfl .nil)) .nil))
   have h3 : m'.take 2 = m := by
    have := List.prefix_iff_eq_take.1 hr'.pre
    rw [show (m : List Nat).length = 2 from hm] at this
    exact this.symm
   refine ⟨hr'.defers, _, rfl, _, by simp [results, Try.results50], rfl, rfl, S', O', ?_⟩
   rw [← h3]; exact h2
end
section
def wrongD (e : Int) : D := .agg [.int .i64 e, .sl []]
set_option maxHeartbeats 2000000 in
theorem c75_rest (g : FuncId) (n e b b' : D) (out : PV ⊕ Value) (herr : out = .inl (.tup []) ∨ ∃ x, out = .inr (wrongW x)) (hg : Xm Try.prog g [.d n, .d e, .ref 0 0] [[.d b]] out [[.d b']]) {S : Reg} {O : Owns} {m : List Nat} {w : World} {ds : List Deferred} (hm : m.length = 2) :
 ∀ c, (∃ f x y, Try.prog.funcs[31]? = some f ∧ f.body = some (.seq x (.seq y c))) →
 G ⟨Try.prog, 7, S, O, w, m, [], ds⟩ c (fun ex s' => (ex = .ret ∧ out = .inl (.tup []) ∧ s' = ⟨[(2, .ref 1 0)], [[.d b'], [.d (.int .i64 0), .d (.sl [])]]⟩) ∨ ∃ x, ex = .panic (chain1 (wrongW x)) ∧ out = .inr (wrongW x) ∧ s'.mem = [[.d b'], [.d (.int .i64 0), .nils]] ∧ s'.get 2 = some (.ref 1 0))
  ⟨[(3, .fn (.func 50) [] [.ref 1 0]), (2, .ref 1 0), (0, .fn (.func g) [] [.d n, .d e, .ref 0 0])], [[.d b], [.d (.int .i64 0), .nils]]⟩ := by
 rintro c ⟨f, x, y, hf, hc⟩
 rw [Try.func31] at hf
 injection hf with hf
 subst hf
 injection hc with hc
 injection hc with _ hc
 injection hc with _ hc
 subst hc
 refine Z83 ?_
 obtain ⟨⟨fn, hfn, hbd, hnm⟩, hgx⟩ := hg
 refine GOps_callx (t := 5) [0] [.d n, .d e, .ref 0 0] [[.d b]] rfl rfl rfl rfl rfl rfl (by decide) (by simp) rfl rfl rfl hfn hbd hnm (oR rfl) hgx (fun r mem' hr => ?_) (fun v mem' hv => ?_)
 · obtain ⟨h1, rfl⟩ := hr
   refine ⟨rfl, ?_⟩
   rcases herr with h2 | ⟨x, h2⟩
   · rw [h2] at h1
     injection h1 with h1
     subst h1
     refine Z6 ?_
     refine vq rfl ((q_buildP pl75 zr75)) ?_
     first | refine sa rfl (dS sz75) ?_ | refine sa rfl (d_store_take sz75) ?_
     refine Z12 ?_
     refine G_le (s' := ⟨[(2, .ref 1 0)], [[.d b'], [.d (.int .i64 0), .d (.sl [])]]⟩) (le_of (hk := by show m.length ≤ 2; omega)) (gT ?_)
     exact .inl ⟨rfl, h2, rfl⟩
   · rw [h2] at h1; cases h1
 · obtain ⟨h1, rfl⟩ := hv
   refine ⟨rfl, ?_⟩
   rcases herr with h2 | ⟨x, h2⟩
   · rw [h2] at h1; cases h1
   · rw [h2] at h1
     injection h1 with h1
     subst h1
     exact .inr ⟨x, rfl, h2, rfl, rfl⟩
theorem Fin.run {P : Program} {n k : Nat} {S S' : Reg} {O O' : Owns} {w w' : World} {m m' : List Nat} {ds : List Deferred} {fn : Func} {rvs : List ResultVar} {R : PV → List (List PV) → Prop} {e : Exit} {s' : GS} {a' : Act} (hk : m.length ≤ k) (hres : fn.results = rvs.toArray) (hf : Fin P rvs k R e s')
 (hr' : Rep ⟨P, n, S, O, w, m, [], ds⟩ S' O' m' s' a' w') : ∃ v r mem' O'', (results fn a'.tmps).run P w' = .ok v w' ∧ R r mem' ∧ Env S O w S' O'' (m'.take mem'.length) mem' w' ∧ m <+: m'.take mem'.length ∧ RP w' S' O'' (m'.take mem'.length) [2] r v := by
 obtain ⟨he, hfin⟩ := hf
 rcases hfin with ⟨ps, mem', hL, hlen, hms, hrf, hR⟩ | ⟨t, k, xs, mem', hrv, hst, hlen, hms, hR⟩
 · obtain ⟨v, hrun, hrp⟩ := hL.run hr' hres O'
   exact ⟨v, _, mem', O', hrun, hR, hr'.env.less hms, List.prefix_take_iff.2 ⟨hr'.pre, Nat.le_trans hk hlen⟩, hrp.take mem'.length hrf⟩
 · have hsl := hr'.slots t _ hst
   have hres' : fn.results = #[.tmp t] := by rw [hres, hrv]
   refine ⟨a'.tmps.getD t undef, _, mem', reo O' (renTR t), by simp [results, hres'], hR, (hr'.env.less hms).relab (renTR t) (fun _ => if_neg (by simp)) (fun i j q => if_neg (end_ne q j i t)),
    List.prefix_take_iff.2 ⟨hr'.pre, Nat.le_trans hk hlen⟩, (hsl.move (l' := [2]) rfl (renTR t) (by simp [renTR])).take _ rfl⟩
theorem gr_use {K : Ctx} {c : Code} {Qr : Exit → Act → World → Prop} {s : GS} (h : E.GR K c Qr s) {a : Act} {w : World} (ha : At K s a w) : c.wp K.P Qr a w := h a w ha
set_option maxHeartbeats 4000000 in
theorem c75 (g : FuncId) (n e b b' : D) (out : PV ⊕ Value) (ex : Int) (herr : (out = .inl (.tup []) ∧ ex = 0) ∨ out = .inr (wrongW ex)) (hg : Xm Try.prog g [.d n, .d e, .ref 0 0] [[.d b]] out [[.d b']]) :
 Gm Try.prog 31 [.fn (.func g) [] [.d n, .d e, .ref 0 0]] [[.d b]] (.d (wrongD ex)) [[.d b']] := by
 refine ⟨⟨_, Try.func31, rfl, rfl⟩, fun w S O m vals henv hvs hargs => ?_⟩
 refine calls_of_wp_defers Try.func31 rfl ?_
 have hat : At ⟨Try.prog, 7, S, O, w, m, [], []⟩ ⟨[(0, .fn (.func g) [] [.d n, .d e, .ref 0 0])], [[.d b]]⟩ { tmps := vals ++ Array.replicate (7 - vals.size) undef, defers := [] } w := by
  refine ⟨S, O, m, henv, rfl, by simp [hvs], List.prefix_refl _, fun i p hp => ?_⟩
  have hlt : 0 < vals.size := by rw [hvs]; exact Nat.one_pos
  match i with
  | 0 =>
   have h1 : PV.fn (.func g) [] [.d n, .d e, .ref 0 0] = p := by simpa [GS.get] using hp
   subst h1
   rw [Array.getD_eq_getD_getElem?, Array.getElem?_append_left hlt, Array.getElem?_eq_getElem hlt]
   exact hargs 0 _ _ rfl (Array.getElem?_eq_getElem hlt)
  | i + 1 => simp [GS.get, List.lookup] at hp
 rw [Try.ntmps31]
 refine gr_use (K := ⟨Try.prog, 7, S, O, w, m, [], []⟩) ?_ hat
 refine GR_seq ?_
 refine Z18 ?_
 refine sv rfl (y_alloc zr75) ?_
 refine gN ⟨rfl, ?_⟩
 refine GR_seqr ?_
 refine GR_region 2 [0, 1] rfl rfl ?_
 refine GROps_val rfl (y_makeFunc (xs := []) (ys := [.tmp 2])) ?_
 refine GROps_defer rfl rfl (fun S1 O1 m1 a1 w1 vc hr hvc hcap hr1 => ?_)
 refine ⟨rfl, ?_⟩
 have hm1 : m1.length = 2 := hr.env.mlen
 have hvc1 : ∃ r, m1[1]? = some r ∧ vc = #[.pointer (some ⟨r, 0, none⟩)] := by
  have h0 : 0 < vc.size := by rw [hvc]; exact Nat.one_pos
  obtain ⟨l, hl⟩ := hcap 0 _ vc[0] rfl (Array.getElem?_eq_getElem h0)
  generalize hv : vc[0] = v at hl
  cases hl with | ref _ _ _ r h1 =>
  refine ⟨r, h1, ?_⟩
  have hvc2 : vc.size = 1 := hvc
  apply Array.ext
  · exact hvc2
  · intro i h2 h3
    have : i = 0 := by omega
    subst this
    simpa using hv
 obtain ⟨r, hr1m, rfl⟩ := hvc1
 have herr' : out = .inl (.tup []) ∨ ∃ x, out = .inr (wrongW x) := herr.imp (fun h => h.1) fun h => ⟨_, h⟩
 refine wp_mono (c75_rest g n e b b' out herr' hg hm1 _ ⟨_, _, _, Try.func31, rfl⟩ _ w1 ⟨S1, O1, m1, hr1⟩) ?_
 rintro ex2 a2 w2 ⟨s2, hq, S2, O2, m2, hr2⟩
 rcases hq with ⟨rfl, ho, rfl⟩ | ⟨x, rfl, ho, hmem2, hget2⟩
 · have hd := hr2.defers
   replace hd : a2.defers = [{ target := .fn (.func 50) #[.pointer (some ⟨r, 0, none⟩)], args := #[] }] := hd
   show Leaves Try.prog Try.f31 a2.tmps _ a2.defers .returning w2
   rw [hd]
   refine leaves_cons (f := 50) (args := #[.pointer (some ⟨r, 0, none⟩)]) (by simp) (by simp [go_sem]) ?_
   refine (catch_idle ⟨r, 0, none⟩ w2).mono ?_
   rintro e' u' w' ⟨rfl, rfl, rfl⟩
   have hr3 : Rep ⟨Try.prog, 7, S, O, w, m, [], [{ target := .fn (.func 50) #[.pointer (some ⟨r, 0, none⟩)], args := #[] }]⟩ S2 O2 m2 _ a2 w' := ⟨hr.env.trans hr2.env, hd, hr2.size, hr.pre.trans hr2.pre, hr2.slots⟩
   have hx0 : ex = 0 := by
    rcases herr with h | h
    · exact h.2
    · rw [ho] at h; cases h
   subst hx0
   obtain ⟨v, r', mem', O'', h1, ⟨h2, h3⟩, h4, h5, h6⟩ := Fin.run (k := 1) (fn := Try.f31) (rvs := [.cell 2 75]) (R := fun q mm => q = .d (wrongD 0) ∧ mm = [[.d b']]) (e := .ret) (by rw [henv.mlen]; exact Nat.le_refl 1) Try.results31 (fincm [[.d b']] sz75 u75 (.inr rfl) ⟨rfl, rfl⟩) hr3
   exact ⟨v, h1, v, r', mem', S2, O'', _, rfl, ⟨h2, h3⟩, h4, h5, h6⟩
 · have hd := hr2.defers
   replace hd : a2.defers = [{ target := .fn (.func 50) #[.pointer (some ⟨r, 0, none⟩)], args := #[] }] := hd
   show Leaves Try.prog Try.f31 a2.tmps _ a2.defers (.panicking (chain1 (wrongW x))) w2
   rw [hd]
   refine leaves_cons (f := 50) (args := #[.pointer (some ⟨r, 0, none⟩)]) (by simp) (by simp [go_sem]) ?_
   have hrm2 : m2[1]? = some r := by
    obtain ⟨t, ht⟩ := hr2.pre
    replace ht : m1 ++ t = m2 := ht
    rw [← ht, List.getElem?_append_left (by omega)]; exact hr1m
   have hex : ex = x := by
    rcases herr with h | h
    · rw [ho] at h; cases h.1
    · rw [ho] at h
      injection h with h
      unfold wrongW at h
      simpa using h.symm
   subst hex
   have henv2 := hr2.env
   rw [hmem2] at henv2
   refine (catch_panic ex (b := b') henv2.rebase hrm2).mono ?_
   rintro e' u' w' ⟨rfl, rfl, S3, O3, henv3⟩
   have hr3 : Rep ⟨Try.prog, 7, S, O, w, m, [], [{ target := .fn (.func 50) #[.pointer (some ⟨r, 0, none⟩)], args := #[] }]⟩ S3 O3 m2 ⟨[(2, .ref 1 0)], [[.d b'], [.d (.int .i64 ex), .d (.sl [])]]⟩ a2 w' := by
    refine ⟨hr.env.trans (henv2.trans henv3), hd, hr2.size, hr.pre.trans hr2.pre, fun i p hp => ?_⟩
    by_cases hi : i = 2
    · subst hi
      have h1 : PV.ref 1 0 = p := by simpa [GS.get, List.lookup] using hp
      subst h1
      have h2 := hr2.slots 2 _ hget2
      generalize a2.tmps.getD 2 undef = v2 at h2
      cases h2 with | ref _ _ _ r2 h3 => exact .ref _ 1 0 r2 h3
    · exfalso
      have hb : (i == 2) = false := by simpa using hi
      simp [GS.get, List.lookup, hb] at hp
   obtain ⟨v, r', mem', O'', h1, ⟨h2, h3⟩, h4, h5, h6⟩ := Fin.run (k := 1) (fn := Try.f31) (rvs := [.cell 2 75]) (R := fun q mm => q = .d (wrongD ex) ∧ mm = [[.d b']]) (e := .ret) (by rw [henv.mlen]; exact Nat.le_refl 1) Try.results31 (fincm [[.d b']] sz75 u75 (.inr rfl) ⟨rfl, rfl⟩) hr3
   exact ⟨v, h1, v, r', mem', S3, O'', _, rfl, ⟨h2, h3⟩, h4, h5, h6⟩
end
end Go.Proofs.Ytklkbfpjimeaoaa
