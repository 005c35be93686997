import Derived.Test.YtklkbfpjimeaoaaM26
import Derived.Test.YtklkbfpjimeaoaaM22
/- Contracts of functions. Conditions: none. -/
set_option linter.unusedSimpArgs false
set_option linter.unusedVariables false
set_option maxRecDepth 20000
namespace Go.Proofs.Ytklkbfpjimeaoaa
open Go Go.Proofs.Ytklkbfpjimeaoaa.E
section
def ruU (nm : ByteArray) : List (ByteArray × ByteArray) := if nm = ⟨#[45]⟩ then [(⟨#[105, 110, 116]⟩, ⟨#[105, 110, 116]⟩)] else [(⟨#[98, 111, 111, 108]⟩, ⟨#[98, 111, 111, 108]⟩)]
def ruB (nm : ByteArray) : List (ByteArray × ByteArray) := if (decide (nm = ⟨#[43]⟩) || decide (nm = ⟨#[45]⟩) || decide (nm = ⟨#[42]⟩) || decide (nm = ⟨#[47]⟩) || decide (nm = ⟨#[37]⟩)) = true then [(⟨#[105, 110, 116, 32, 105, 110, 116]⟩, ⟨#[105, 110, 116]⟩)] else if (decide (nm = ⟨#[61, 61]⟩) || decide (nm = ⟨#[33, 61]⟩)) = true then [(⟨#[105, 110, 116, 32, 105, 110, 116]⟩, ⟨#[98, 111, 111, 108]⟩), (⟨#[98, 111, 111, 108, 32, 98, 111, 111, 108]⟩, ⟨#[98, 111, 111, 108]⟩)] else if (decide (nm = ⟨#[60]⟩) || decide (nm = ⟨#[60, 61]⟩) || decide (nm = ⟨#[62]⟩) || decide (nm = ⟨#[62, 61]⟩)) = true then [(⟨#[105, 110, 116, 32, 105, 110, 116]⟩, ⟨#[98, 111, 111, 108]⟩)] else [(⟨#[98, 111, 111, 108, 32, 98, 111, 111, 108]⟩, ⟨#[98, 111, 111, 108]⟩)]
def opT (op : Int) (nm : ByteArray) : List ByteArray → ByteArray
 | [] => ⟨#[]⟩
 | a :: r =>
  if op = 5 then ruleT (ruU nm) a
  else if op = 7 then whenS (allB (a :: r) sInt) sRange
  else if op = 10 then (match r with | [] => whenS (allB [a] sRange) sDom1 | _ => whenS (allB (a :: r) sRange) sDom2)
  else if op = 11 then whenS (isDomB a && allB r sInt) a
  else if op = 12 then (match r with | [_] => whenS (decide (a = sArr1) && allB r sInt) sInt | _ => whenS (decide (a = sArr2) && allB r sInt) sInt)
  else if op = 14 then fieldT nm a
  else if op = 15 then whenS (decide (a = (opGet nm).1) && allB r sInt) (opGet nm).2.1
  else if op = 18 then whenS ((decide (a = sRange) || decide (a = sDom1)) || isArrB a) sInt
  else match r with
   | [] => ⟨#[]⟩
   | b :: r' =>
    if op = 6 then ruleT (ruB nm) (joinT a b)
    else if op = 8 then whenS (decide (a = sRange) && decide (b = sInt)) sRange
    else if op = 9 then whenS (decide (a = sRange) && decide (b = sInt)) sRange
    else match r' with
     | [] => ⟨#[]⟩
     | c :: _ => whenS ((decide (a = sBool) && decide (b = c)) && (((decide (b = sInt) || decide (b = sBool)) || decide (b = sRange)) || isDomB b)) b
variable {ks : List Tr} {x : UInt8}
theorem kw1 (h : kidsB ks ⟨#[x]⟩ = true) : ks.length = 1 := kidsB_len h
theorem kw2 {y : UInt8} (h : kidsB ks ⟨#[x, y]⟩ = true) : ks.length = 2 := kidsB_len h
theorem kw3 {y z : UInt8} (h : kidsB ks ⟨#[x, y, z]⟩ = true) : ks.length = 3 := kidsB_len h
variable {α : Type}
theorem ln1 : ∀ {l : List α}, l.length = 1 → ∃ a, l = [a]
 | [a], _ => ⟨a, rfl⟩
theorem ln2 : ∀ {l : List α}, l.length = 2 → ∃ a b, l = [a, b]
 | [a, b], _ => ⟨a, b, rfl⟩
theorem ln3 : ∀ {l : List α}, l.length = 3 → ∃ a b c, l = [a, b, c]
 | [a, b, c], _ => ⟨a, b, c, rfl⟩
theorem lnS : ∀ {l : List α}, 0 < l.length → ∃ a r, l = a :: r
 | a :: r, _ => ⟨a, r, rfl⟩
theorem c146s5 (nm : ByteArray) (num : Int) (ks : List Tr) (l : List ByteArray) (hl : l.length = ks.length) (hs : ∀ t ∈ l, t.size ≤ 1000000) (hr : rightB (.mk 5 nm num ks) = true) : Pf Try.prog 57 [(Tr.mk 5 nm num ks).d, .sl (l.map .str)] (.d (.str (opT 5 nm l))) := by
 rw [right5] at hr
 rw [Tr.d_mk]
 simp only [Bool.and_eq_true] at hr
 obtain ⟨⟨hn, _⟩, hk⟩ := hr
 obtain ⟨a, rfl⟩ := ln1 (hl.trans (kw1 hk))
 rw [Bool.or_eq_true, decide_eq_true_eq, decide_eq_true_eq] at hn
 rcases hn with rfl | rfl
 · exact c146u0 num _ a (hs a (by simp))
 · exact c146u1 num _ a (hs a (by simp))
theorem c146s6 (nm : ByteArray) (num : Int) (ks : List Tr) (l : List ByteArray) (hl : l.length = ks.length) (hs : ∀ t ∈ l, t.size ≤ 1000000) (hr : rightB (.mk 6 nm num ks) = true) : Pf Try.prog 57 [(Tr.mk 6 nm num ks).d, .sl (l.map .str)] (.d (.str (opT 6 nm l))) := by
 rw [right6] at hr
 rw [Tr.d_mk]
 simp only [Bool.and_eq_true] at hr
 obtain ⟨⟨hn, _⟩, hk⟩ := hr
 obtain ⟨a, b, rfl⟩ := ln2 (hl.trans (kw2 hk))
 simp only [hasB, List.any_cons, List.any_nil, Bool.or_eq_true, decide_eq_true_eq, Bool.false_eq_true, or_false] at hn
 have ha := hs a (by simp)
 have hb := hs b (by simp)
 rcases hn with rfl | rfl | rfl | rfl | rfl | rfl | rfl | rfl | rfl | rfl | rfl | rfl | rfl
 · exact c146b0 num _ a b ha hb
 · exact c146b1 num _ a b ha hb
 · exact c146b2 num _ a b ha hb
 · exact c146b3 num _ a b ha hb
 · exact c146b4 num _ a b ha hb
 · exact c146b5 num _ a b ha hb
 · exact c146b6 num _ a b ha hb
 · exact c146b7 num _ a b ha hb
 · exact c146b8 num _ a b ha hb
 · exact c146b9 num _ a b ha hb
 · exact c146b10 num _ a b ha hb
 · exact c146b11 num _ a b ha hb
 · exact c146b12 num _ a b ha hb
theorem c146s7 (nm : ByteArray) (num : Int) (ks : List Tr) (l : List ByteArray) (hl : l.length = ks.length) (hs : ∀ t ∈ l, t.size ≤ 1000000) (hr : rightB (.mk 7 nm num ks) = true) : Pf Try.prog 57 [(Tr.mk 7 nm num ks).d, .sl (l.map .str)] (.d (.str (opT 7 nm l))) := by
 rw [right7] at hr
 rw [Tr.d_mk]
 simp only [Bool.and_eq_true] at hr
 obtain ⟨_, hk⟩ := hr
 obtain ⟨a, b, rfl⟩ := ln2 (hl.trans (kw2 hk))
 exact c146_7 nm num _ a b
theorem c146s8 (nm : ByteArray) (num : Int) (ks : List Tr) (l : List ByteArray) (hl : l.length = ks.length) (hs : ∀ t ∈ l, t.size ≤ 1000000) (hr : rightB (.mk 8 nm num ks) = true) : Pf Try.prog 57 [(Tr.mk 8 nm num ks).d, .sl (l.map .str)] (.d (.str (opT 8 nm l))) := by
 rw [right8] at hr
 rw [Tr.d_mk]
 simp only [Bool.and_eq_true] at hr
 obtain ⟨_, hk⟩ := hr
 obtain ⟨a, b, rfl⟩ := ln2 (hl.trans (kw2 hk))
 exact c146_8 nm num _ a b
theorem c146s9 (nm : ByteArray) (num : Int) (ks : List Tr) (l : List ByteArray) (hl : l.length = ks.length) (hs : ∀ t ∈ l, t.size ≤ 1000000) (hr : rightB (.mk 9 nm num ks) = true) : Pf Try.prog 57 [(Tr.mk 9 nm num ks).d, .sl (l.map .str)] (.d (.str (opT 9 nm l))) := by
 rw [right9] at hr
 rw [Tr.d_mk]
 simp only [Bool.and_eq_true] at hr
 obtain ⟨_, hk⟩ := hr
 obtain ⟨a, b, rfl⟩ := ln2 (hl.trans (kw2 hk))
 exact c146_9 nm num _ a b
theorem c146s10 (nm : ByteArray) (num : Int) (ks : List Tr) (l : List ByteArray) (hl : l.length = ks.length) (hs : ∀ t ∈ l, t.size ≤ 1000000) (hr : rightB (.mk 10 nm num ks) = true) : Pf Try.prog 57 [(Tr.mk 10 nm num ks).d, .sl (l.map .str)] (.d (.str (opT 10 nm l))) := by
 rw [right10] at hr
 rw [Tr.d_mk]
 simp only [Bool.and_eq_true] at hr
 obtain ⟨_, hk⟩ := hr
 rw [Bool.or_eq_true] at hk
 rcases hk with hk | hk
 · obtain ⟨a, rfl⟩ := ln1 (hl.trans (kw1 hk))
   exact c146_10a nm num _ a
 · obtain ⟨a, b, rfl⟩ := ln2 (hl.trans (kw2 hk))
   exact c146_10b nm num _ a b
theorem c146s12 (nm : ByteArray) (num : Int) (ks : List Tr) (l : List ByteArray) (hl : l.length = ks.length) (hs : ∀ t ∈ l, t.size ≤ 1000000) (hr : rightB (.mk 12 nm num ks) = true) : Pf Try.prog 57 [(Tr.mk 12 nm num ks).d, .sl (l.map .str)] (.d (.str (opT 12 nm l))) := by
 rw [right12] at hr
 rw [Tr.d_mk]
 simp only [Bool.and_eq_true] at hr
 obtain ⟨_, hk⟩ := hr
 rw [Bool.or_eq_true] at hk
 rcases hk with hk | hk
 · obtain ⟨a, b, rfl⟩ := ln2 (hl.trans (kw2 hk))
   exact c146_12a nm num _ a b
 · obtain ⟨a, b, c, rfl⟩ := ln3 (hl.trans (kw3 hk))
   exact c146_12b nm num _ a b c
theorem c146s14 (nm : ByteArray) (num : Int) (ks : List Tr) (l : List ByteArray) (hl : l.length = ks.length) (hs : ∀ t ∈ l, t.size ≤ 1000000) (hr : rightB (.mk 14 nm num ks) = true) : Pf Try.prog 57 [(Tr.mk 14 nm num ks).d, .sl (l.map .str)] (.d (.str (opT 14 nm l))) := by
 rw [right14] at hr
 rw [Tr.d_mk]
 simp only [Bool.and_eq_true] at hr
 obtain ⟨_, hk⟩ := hr
 obtain ⟨a, rfl⟩ := ln1 (hl.trans (kw1 hk))
 exact c146_14 nm num _ a
theorem c146s18 (nm : ByteArray) (num : Int) (ks : List Tr) (l : List ByteArray) (hl : l.length = ks.length) (hs : ∀ t ∈ l, t.size ≤ 1000000) (hr : rightB (.mk 18 nm num ks) = true) : Pf Try.prog 57 [(Tr.mk 18 nm num ks).d, .sl (l.map .str)] (.d (.str (opT 18 nm l))) := by
 rw [right18] at hr
 rw [Tr.d_mk]
 simp only [Bool.and_eq_true] at hr
 obtain ⟨_, hk⟩ := hr
 obtain ⟨a, rfl⟩ := ln1 (hl.trans (kw1 hk))
 exact c146_18 nm num _ a
theorem c146s19 (nm : ByteArray) (num : Int) (ks : List Tr) (l : List ByteArray) (hl : l.length = ks.length) (hs : ∀ t ∈ l, t.size ≤ 1000000) (hr : rightB (.mk 19 nm num ks) = true) : Pf Try.prog 57 [(Tr.mk 19 nm num ks).d, .sl (l.map .str)] (.d (.str (opT 19 nm l))) := by
 rw [right19] at hr
 rw [Tr.d_mk]
 simp only [Bool.and_eq_true] at hr
 obtain ⟨_, hk⟩ := hr
 obtain ⟨a, b, c, rfl⟩ := ln3 (hl.trans (kw3 hk))
 exact c146_19 nm num _ a b c
theorem c146s11 (nm : ByteArray) (num : Int) (ks : List Tr) (l : List ByteArray) (hl : l.length = ks.length) (hs : ∀ t ∈ l, t.size ≤ 1000000) (hk : ks.length ≤ 1000000) (hr : rightB (.mk 11 nm num ks) = true) : Pf Try.prog 57 [(Tr.mk 11 nm num ks).d, .sl (l.map .str)] (.d (.str (opT 11 nm l))) := by
 rw [right11] at hr
 rw [Tr.d_mk]
 have hp : 0 < l.length := by
  split at hr
  · rw [Bool.and_eq_true] at hr; rw [hl, kw2 hr.2]; decide
  · rw [Bool.and_eq_true] at hr; rw [hl, kw1 hr.2]; decide
 obtain ⟨a, r, rfl⟩ := lnS hp
 rw [List.length_cons] at hl
 exact c146_11 nm num _ a r (by omega)
theorem c146s15 (nm : ByteArray) (num : Int) (ks : List Tr) (l : List ByteArray) (hl : l.length = ks.length) (hs : ∀ t ∈ l, t.size ≤ 1000000) (hk : ks.length ≤ 1000000) (hnm : nm.size ≤ 140737488355328) (hr : rightB (.mk 15 nm num ks) = true) : Pf Try.prog 57 [(Tr.mk 15 nm num ks).d, .sl (l.map .str)] (.d (.str (opT 15 nm l))) := by
 rw [right15] at hr
 rw [Tr.d_mk]
 simp only [Bool.and_eq_true, decide_eq_true_eq] at hr
 have hp : 0 < l.length := by
  rw [hl, kidsB_len hr.2, ByteArray.size_extract]
  have : eee.size = 3 := rfl
  omega
 obtain ⟨a, r, rfl⟩ := lnS hp
 rw [List.length_cons] at hl
 exact c146_15 nm hnm num _ a r (by omega)
theorem c146 (op : Int) (nm : ByteArray) (num : Int) (ks : List Tr) (l : List ByteArray) (hl : l.length = ks.length) (hs : ∀ t ∈ l, t.size ≤ 1000000) (hk : ks.length ≤ 1000000) (hnm : nm.size ≤ 140737488355328) (he : isExprB op = true) (hn : op ≠ 1 ∧ op ≠ 2 ∧ op ≠ 4 ∧ op ≠ 13 ∧ op ≠ 16 ∧ op ≠ 17) (hr : rightB (.mk op nm num ks) = true) : Pf Try.prog 57 [(Tr.mk op nm num ks).d, .sl (l.map .str)] (.d (.str (opT op nm l))) := by
 have ho : op = 5 ∨ op = 6 ∨ op = 7 ∨ op = 8 ∨ op = 9 ∨ op = 10 ∨ op = 11 ∨ op = 12 ∨ op = 14 ∨ op = 15 ∨ op = 18 ∨ op = 19 := by
  unfold isExprB at he
  simp only [Bool.and_eq_true, decide_eq_true_eq, bne_iff_ne, ne_eq] at he
  omega
 rcases ho with rfl | rfl | rfl | rfl | rfl | rfl | rfl | rfl | rfl | rfl | rfl | rfl
 · exact c146s5 nm num ks l hl hs hr
 · exact c146s6 nm num ks l hl hs hr
 · exact c146s7 nm num ks l hl hs hr
 · exact c146s8 nm num ks l hl hs hr
 · exact c146s9 nm num ks l hl hs hr
 · exact c146s10 nm num ks l hl hs hr
 · exact c146s11 nm num ks l hl hs hk hr
 · exact c146s12 nm num ks l hl hs hr
 · exact c146s14 nm num ks l hl hs hr
 · exact c146s15 nm num ks l hl hs hk hnm hr
 · exact c146s18 nm num ks l hl hs hr
 · exact c146s19 nm num ks l hl hs hr
end
section
structure Gv where
 nm : ByteArray
 ty : ByteArray
 con : Bool
def Gv.d (x : Gv) : D := .agg [.str x.nm, .str x.ty, .bool x.con]
def gvs (g : List Gv) : List (D × D) := g.map fun x => (.str x.nm, x.d)
structure Nm where
 p : Pg
 g : List Gv
 ls : List Lc
def Nm.d (n : Nm) : D := .agg [.sl (n.p.globals.map Tr.d), .sl (n.p.procs.map Pc.d), .map (gvs n.g), locD n.ls]
def lookN (n : Nm) (s : ByteArray) : Option Gv := match findL s n.ls with
 | x :: _ => some ⟨x.nm, x.ty, x.con⟩
 | [] => n.g.find? fun x => decide (x.nm = s)
def zGv : D := .agg [.str ⟨#[]⟩, .str ⟨#[]⟩, .bool false]
theorem gvs_get (s : ByteArray) : ∀ g : List Gv, mgetQ (.str s) zGv (gvs g) = (match g.find? fun x => decide (x.nm = s) with | some x => x.d | none => zGv) ∧ mhasQ (.str s) (gvs g) = (g.find? fun x => decide (x.nm = s)).isSome
 | [] => ⟨rfl, rfl⟩
 | x :: r => by
  rw [gvs, List.map_cons, mgetQ, mhasQ, List.find?_cons]
  by_cases h : x.nm = s
  · rw [show D.keyQ (.str x.nm) (.str s) = true from by subst h; simp [D.keyQ, D.leafQ], show decide (x.nm = s) = true from decide_eq_true h]
    exact ⟨rfl, rfl⟩
  · rw [show D.keyQ (.str x.nm) (.str s) = false from by simp [D.keyQ, D.leafQ, h], show decide (x.nm = s) = false from decide_eq_false h]
    exact gvs_get s r
theorem gvs_some {s : ByteArray} {g : List Gv} {x : Gv} (h : g.find? (fun x => decide (x.nm = s)) = some x) : lsK true (.str s) zGv (gvs g) = some (.tup [.d x.d, .d (.bool true)]) := by
 obtain ⟨h1, h2⟩ := gvs_get s g
 rw [h] at h1 h2
 unfold lsK
 rw [h1, h2]
 rfl
theorem gvs_none {s : ByteArray} {g : List Gv} (h : g.find? (fun x => decide (x.nm = s)) = none) : lsK true (.str s) zGv (gvs g) = some (.tup [.d zGv, .d (.bool false)]) := by
 obtain ⟨h1, h2⟩ := gvs_get s g
 rw [h] at h1 h2
 unfold lsK
 rw [h2]
 rfl
structure Nm.Ok (n : Nm) : Prop where
 p : n.p.Ok
 g : ∀ x ∈ n.g, x.nm.size ≤ 140737488355328
theorem Nm.Ok.keys {n : Nm} (h : n.Ok) : (gvs n.g).all (fun x => strB x.1) = true := by
 rw [List.all_eq_true]
 intro x hx
 obtain ⟨y, hy, rfl⟩ := List.mem_map.1 hx
 exact Nat.ble_eq_true_of_le (h.g y hy)
def outL : Option Gv → PV ⊕ Value
 | some x => .inl (.d x.d)
 | none => .inr (wrongW 9)
theorem c144 (n : Nm) (hn : n.Ok) (s : ByteArray) (hs : s.size ≤ 140737488355328) : Px Try.prog 55 [n.d, .str s] (outL (lookN n s)) := by
 have q := c200L n.ls s
 have hk := hn.keys
 unfold lookN
 cases hf : findL s n.ls with
 | cons x r =>
  rw [hf] at q
  refine pxB Try.func55 Try.ntmps55 Try.results55 (fun S0 O0 w0 m0 hm0 => ?_)
  repeat' first | refine st (by exact rfl) ?_ | refine ct (by exact rfl) ?_ rfl | refine cf (by exact rfl) ?_ rfl | fail
  refine Z75 ?_
  dsimp only [locD]
  repeat' first | refine st (by exact rfl) ?_ | refine ct (by exact rfl) ?_ rfl | refine cf (by exact rfl) ?_ rfl | fail
  exact Y4
 | nil =>
  rw [hf] at q
  have hs' : strB (.str s) = true := Nat.ble_eq_true_of_le hs
  dsimp only
  cases hg : n.g.find? (fun x => decide (x.nm = s)) with
  | some x =>
   refine pxB Try.func55 Try.ntmps55 Try.results55 (fun S0 O0 w0 m0 hm0 => ?_)
   repeat' first | refine st (by exact rfl) ?_ | refine ct (by exact rfl) ?_ rfl | refine cf (by exact rfl) ?_ rfl | fail
   refine Z75 ?_
   dsimp only [locD]
   repeat' first | refine st (by exact rfl) ?_ | refine ct (by exact rfl) ?_ rfl | refine cf (by exact rfl) ?_ rfl | fail
   refine ls C9 (by exact rfl) (hr := gvs_some hg) (hks := hk) (hk := hs') (hg := ?_)
   dsimp only [Gv.d]
   repeat' first | refine st (by exact rfl) ?_ | refine cl (by exact rfl) (c119t 9).inl ?_ | fail
   exact Y4
  | none =>
   refine pxB Try.func55 Try.ntmps55 Try.results55 (fun S0 O0 w0 m0 hm0 => ?_)
   repeat' first | refine st (by exact rfl) ?_ | refine ct (by exact rfl) ?_ rfl | refine cf (by exact rfl) ?_ rfl | fail
   refine Z75 ?_
   dsimp only [locD]
   repeat' first | refine st (by exact rfl) ?_ | refine ct (by exact rfl) ?_ rfl | refine cf (by exact rfl) ?_ rfl | fail
   refine ls C9 (by exact rfl) (hr := gvs_none hg) (hks := hk) (hk := hs') (hg := ?_)
   dsimp only [zGv]
   repeat' first | refine st (by exact rfl) ?_ | refine clp (by exact rfl) (c119f 9) ?_ | fail
   exact gPan rfl
end
section
def callQ (q : Pc) (b : Bool) (l : List ByteArray) : Except Int ByteArray :=
 if q.formals.any staticB = true then .error 153 else if (b || !q.iter) = false then .error 151 else if l.length ≠ q.formals.length then .error 5 else if ((l.zip q.formals).all fun x => decide (x.1 = x.2.ty.nm)) = true then .ok q.result.nm else .error 13
def callT (p : Pg) (nm : ByteArray) (b : Bool) (l : List ByteArray) : Except Int ByteArray := match p.procs.findIdx? (fun q => decide (q.nm = nm)) with
 | none => .error 9
 | some i => match p.procs[i]? with
  | none => .error 9
  | some q => callQ q b l
def opE (t : ByteArray) : Except Int ByteArray := if t = ⟨#[]⟩ then .error 13 else .ok t
def lookE : Option Gv → Except Int ByteArray
 | some x => .ok x.ty
 | none => .error 9
mutual
/-- The type of an expression, or its error. -/
def typeT (n : Nm) : Tr → Bool → Except Int ByteArray
 | .mk op nm _ ks, b =>
  if op = 1 ∨ op = 16 ∨ op = 17 then .ok sInt
  else if op = 2 then .ok sBool
  else if op = 4 then lookE (lookN n nm)
  else if op = 13 then (argsT n ks).bind (callT n.p nm b)
  else (kidsT n ks).bind fun l => opE (opT op nm l)
def kidsT (n : Nm) : List Tr → Except Int (List ByteArray)
 | [] => .ok []
 | k :: r => (typeT n k false).bind fun t => (kidsT n r).bind fun l => .ok (t :: l)
def argsT (n : Nm) : List Tr → Except Int (List ByteArray)
 | [] => .ok []
 | k :: r => if k.op = 30 then .error 153 else (typeT n k false).bind fun t => (argsT n r).bind fun l => .ok (t :: l)
end
def outT : Except Int ByteArray → PV ⊕ Value
 | .ok s => .inl (.d (.str s))
 | .error e => .inr (wrongW e)
def lstD : List D → PV
 | [] => .nils
 | x :: r => .osl 1 (x :: r)
def kidsI (n : Nm) (ks : List Tr) (xs : List D) (z : Nat) : Prop := ∃ done : List ByteArray, xs = done.map .str ∧ done.length = z ∧ z ≤ ks.length ∧ (∀ e, kidsT n (ks.drop z) = .error e → kidsT n ks = .error e) ∧ (∀ l, kidsT n (ks.drop z) = .ok l → kidsT n ks = .ok (done ++ l))
variable {n : Nm} {ks : List Tr} {z : Nat}
theorem kidsI_err {xs : List D} {k : Tr} {e : Int} (h : kidsI n ks xs z) (hk : ks[z]? = some k) (ht : typeT n k false = .error e) : kidsT n ks = .error e := by
 obtain ⟨done, _, _, _, h4, _⟩ := h
 obtain ⟨hz, hk'⟩ := List.getElem?_eq_some_iff.1 hk
 refine h4 e ?_
 rw [List.drop_eq_getElem_cons hz, hk', kidsT, ht]
 rfl
theorem kidsI_ok {xs : List D} {k : Tr} {t : ByteArray} (h : kidsI n ks xs z) (hk : ks[z]? = some k) (ht : typeT n k false = .ok t) : kidsI n ks (xs ++ [.str t]) (z + 1) := by
 obtain ⟨done, h1, h2, h3, h4, h5⟩ := h
 obtain ⟨hz, hk'⟩ := List.getElem?_eq_some_iff.1 hk
 have hd : kidsT n (ks.drop z) = (kidsT n (ks.drop (z + 1))).bind fun l => .ok (t :: l) := by
  rw [List.drop_eq_getElem_cons hz, hk', kidsT, ht]
  rfl
 refine ⟨done ++ [t], by rw [h1]; simp, by simp [h2], hz, fun e he => h4 e (by rw [hd, he]; rfl), fun l hl => ?_⟩
 have := h5 (t :: l) (by rw [hd, hl]; rfl)
 rw [this]; simp
theorem kidsI_end {xs : List D} (h : kidsI n ks xs z) (hz : ks.length ≤ z) : ∃ done : List ByteArray, xs = done.map .str ∧ done.length = ks.length ∧ kidsT n ks = .ok done := by
 obtain ⟨done, h1, h2, h3, _, h5⟩ := h
 refine ⟨done, h1, by omega, ?_⟩
 have := h5 [] (by rw [List.drop_eq_nil_of_le hz]; rfl)
 rw [this, List.append_nil]
set_option maxHeartbeats 4000000 in
theorem c80o (n : Nm) (op : Int) (nm : ByteArray) (num : Int) (ks : List Tr) (b : Bool) (h1 : (op == 1) = false) (h16 : (op == 16) = false) (h17 : (op == 17) = false) (h2 : (op == 2) = false) (h4 : (op == 4) = false) (h13 : (op == 13) = false) (hl : ks.length ≤ 1000000)
 (hk : ∀ k ∈ ks, Px Try.prog 36 [n.d, k.d, .bool false] (outT (typeT n k false))) (ho : ∀ l : List ByteArray, l.length = ks.length → kidsT n ks = .ok l → Pf Try.prog 57 [.agg [.int .i64 op, .str nm, .int .i64 num, .sl (ks.map Tr.d)], .sl (l.map .str)] (.d (.str (opT op nm l)))) :
 Px Try.prog 36 [n.d, .agg [.int .i64 op, .str nm, .int .i64 num, .sl (ks.map Tr.d)], .bool b] (outT ((kidsT n ks).bind fun l => opE (opT op nm l))) := by
 refine pxB Try.func36 Try.ntmps36 Try.results36 (fun S0 O0 w0 m0 hm0 => ?_)
 repeat' first | refine st (by exact rfl) ?_ | refine cf (by exact rfl) ?_ (by assumption) | fail
 refine gLo (fun y : List D × Nat => ⟨[(3, .ref 0 0), (4, .ref 1 0), (7, lstD y.1), (33, .d (.sl (ks.map Tr.d))), (34, .d (.int .i64 ((ks.map Tr.d).length : Int))), (35, .d (.int .i64 (y.2 : Int)))], [[.d (.sl (n.p.globals.map Tr.d)), .d (.sl (n.p.procs.map Pc.d)), .d (.map (gvs n.g)), .d (locD n.ls)], [.d (.int .i64 op), .d (.str nm), .d (.int .i64 num), .d (.sl (ks.map Tr.d))]]⟩) (fun y => ks.length - y.2) (fun y => kidsI n ks y.1 y.2) ([], 0) ⟨[], rfl, rfl, Nat.zero_le _, fun e he => he, fun l hl => hl⟩ le_of (fun y hy Q' hn he hr hp => ?_)
 obtain ⟨xs, z⟩ := y
 dsimp only at hy
 have hlen : (ks.map Tr.d).length = ks.length := List.length_map ..
 rcases xs with _ | ⟨x0, r0⟩
 all_goals dsimp only [lstD]
 all_goals repeat' first | refine st (by exact rfl) ?_ | fail
 all_goals refine cd (by exact rfl) (fun hb => ?_) (fun hb => ?_)
 · have hz : z < ks.length := by have := oR hb; omega
   obtain ⟨k, hkz⟩ : ∃ k, ks[z]? = some k := ⟨ks[z], gE hz⟩
   have q := hk k (mG hkz)
   have hxd := Tr.ds_get hkz
   obtain ⟨kop, knm, knu, kks, hka⟩ := k.d_agg
   rw [hka] at q hxd
   repeat' first | refine st (by exact rfl) ?_ | fail
   refine el (by exact rfl) hxd ?_ (by omega)
   repeat' first | refine st (by exact rfl) ?_ | fail
   cases ht : typeT n k false with
   | error e =>
    rw [ht] at q
    refine Z57 ?_
    repeat' first | refine st (by exact rfl) ?_ | fail
    refine Z59 ?_
    repeat' first | refine st (by exact rfl) ?_ | fail
    exact gPan (by rw [kidsI_err hy hkz ht]; rfl)
   | ok t =>
    rw [ht] at q
    refine Z52 ?_
    repeat' first | refine st (by exact rfl) ?_ | refine bs (by exact rfl) ?_ | refine ap (by exact rfl) ?_ | fail
    rw [wrap_succ (by omega)]
    exact Y13
 · obtain ⟨done, hx, hdl, hkd⟩ := kidsI_end hy (by have := of_decide_eq_false hb; omega)
   have q := ho done hdl hkd
   rw [← hx] at q
   repeat' first | refine st (by exact rfl) ?_ | fail
   refine Z45 ?_
   repeat' first | refine st (by exact rfl) ?_ | fail
   refine Z75 ?_
   repeat' first | refine st (by exact rfl) ?_ | fail
   by_cases h0 : opT op nm done = ⟨#[]⟩
   · have e0 : (!decide (opT op nm done = ⟨#[]⟩)) = false := by rw [h0]; decide
     refine clp (u := wrongW 13) (by exact rfl) ?_ ?_
     · rw [e0]; exact c119f 13
     · repeat' first | refine st (by exact rfl) ?_ | fail
       exact gPan (by rw [hkd]; simp only [Except.bind, opE, if_pos h0, outT])
   · have e0 : (!decide (opT op nm done = ⟨#[]⟩)) = true := by simp [h0]
     refine cl (r := .tup []) (by exact rfl) ?_ ?_
     · rw [e0]; exact (c119t 13).inl
     · repeat' first | refine st (by exact rfl) ?_ | fail
       exact Y14
 · have hz : z < ks.length := by have := oR hb; omega
   obtain ⟨k, hkz⟩ : ∃ k, ks[z]? = some k := ⟨ks[z], gE hz⟩
   have q := hk k (mG hkz)
   have hxd := Tr.ds_get hkz
   obtain ⟨kop, knm, knu, kks, hka⟩ := k.d_agg
   rw [hka] at q hxd
   have hlx : r0.length + 1 ≤ 1000000 := by
    obtain ⟨done, h5, h6, h7, _⟩ := hy
    have h8 := congrArg List.length h5
    simp only [List.length_cons, List.length_map] at h8
    omega
   repeat' first | refine st (by exact rfl) ?_ | fail
   refine el (by exact rfl) hxd ?_ (by omega)
   repeat' first | refine st (by exact rfl) ?_ | fail
   cases ht : typeT n k false with
   | error e =>
    rw [ht] at q
    refine Z57 ?_
    repeat' first | refine st (by exact rfl) ?_ | fail
    refine Z59 ?_
    repeat' first | refine st (by exact rfl) ?_ | fail
    exact gPan (by rw [kidsI_err hy hkz ht]; rfl)
   | ok t =>
    rw [ht] at q
    refine Z52 ?_
    repeat' first | refine st (by exact rfl) ?_ | refine bs (by exact rfl) ?_ | refine ap (by exact rfl) ?_ | fail
    rw [wrap_succ (by omega)]
    exact Y13
 · obtain ⟨done, hx, hdl, hkd⟩ := kidsI_end hy (by have := of_decide_eq_false hb; omega)
   have q := ho done hdl hkd
   rw [← hx] at q
   repeat' first | refine st (by exact rfl) ?_ | fail
   refine Z45 ?_
   repeat' first | refine st (by exact rfl) ?_ | fail
   refine Z75 ?_
   repeat' first | refine st (by exact rfl) ?_ | fail
   by_cases h0 : opT op nm done = ⟨#[]⟩
   · have e0 : (!decide (opT op nm done = ⟨#[]⟩)) = false := by rw [h0]; decide
     refine clp (u := wrongW 13) (by exact rfl) ?_ ?_
     · rw [e0]; exact c119f 13
     · repeat' first | refine st (by exact rfl) ?_ | fail
       exact gPan (by rw [hkd]; simp only [Except.bind, opE, if_pos h0, outT])
   · have e0 : (!decide (opT op nm done = ⟨#[]⟩)) = true := by simp [h0]
     refine cl (r := .tup []) (by exact rfl) ?_ ?_
     · rw [e0]; exact (c119t 13).inl
     · repeat' first | refine st (by exact rfl) ?_ | fail
       exact Y14
end
section
def argsI (n : Nm) (ks : List Tr) (xs : List D) (z : Nat) : Prop := ∃ done : List ByteArray, xs = done.map .str ∧ done.length = z ∧ z ≤ ks.length ∧ (∀ e, argsT n (ks.drop z) = .error e → argsT n ks = .error e) ∧ (∀ l, argsT n (ks.drop z) = .ok l → argsT n ks = .ok (done ++ l))
variable {n : Nm} {ks : List Tr} {z : Nat} {k : Tr}
theorem argsI_ty {xs : List D} (h : argsI n ks xs z) (hk : ks[z]? = some k) (ho : k.op = 30) : argsT n ks = .error 153 := by
 obtain ⟨done, _, _, _, h4, _⟩ := h
 obtain ⟨hz, hk'⟩ := List.getElem?_eq_some_iff.1 hk
 refine h4 153 ?_
 rw [List.drop_eq_getElem_cons hz, hk', argsT, if_pos ho]
theorem argsI_err {xs : List D} {e : Int} (h : argsI n ks xs z) (hk : ks[z]? = some k) (ho : k.op ≠ 30) (ht : typeT n k false = .error e) : argsT n ks = .error e := by
 obtain ⟨done, _, _, _, h4, _⟩ := h
 obtain ⟨hz, hk'⟩ := List.getElem?_eq_some_iff.1 hk
 refine h4 e ?_
 rw [List.drop_eq_getElem_cons hz, hk', argsT, if_neg ho, ht]
 rfl
theorem argsI_ok {xs : List D} {t : ByteArray} (h : argsI n ks xs z) (hk : ks[z]? = some k) (ho : k.op ≠ 30) (ht : typeT n k false = .ok t) : argsI n ks (xs ++ [.str t]) (z + 1) := by
 obtain ⟨done, h1, h2, h3, h4, h5⟩ := h
 obtain ⟨hz, hk'⟩ := List.getElem?_eq_some_iff.1 hk
 have hd : argsT n (ks.drop z) = (argsT n (ks.drop (z + 1))).bind fun l => .ok (t :: l) := by
  rw [List.drop_eq_getElem_cons hz, hk', argsT, if_neg ho, ht]
  rfl
 refine ⟨done ++ [t], by rw [h1]; simp, by simp [h2], hz, fun e he => h4 e (by rw [hd, he]; rfl), fun l hl => ?_⟩
 have := h5 (t :: l) (by rw [hd, hl]; rfl)
 rw [this]; simp
theorem argsI_end {xs : List D} (h : argsI n ks xs z) (hz : ks.length ≤ z) : ∃ done : List ByteArray, xs = done.map .str ∧ done.length = ks.length ∧ argsT n ks = .ok done := by
 obtain ⟨done, h1, h2, h3, _, h5⟩ := h
 refine ⟨done, h1, by omega, ?_⟩
 have := h5 [] (by rw [List.drop_eq_nil_of_le hz]; rfl)
 rw [this, List.append_nil]
theorem q119 {b : Bool} (e : Int) (h : b = true) : Pf Try.prog 51 [.bool b, .int .i64 e] (.tup []) := by subst h; exact (c119t e).inl
theorem x119 {b : Bool} (e : Int) (h : b = false) : Px Try.prog 51 [.bool b, .int .i64 e] (.inr (wrongW e)) := by subst h; exact c119f e
theorem zipA {l : List ByteArray} {fs : List Fm} (h : ∀ (j : Nat) t f, l[j]? = some t → fs[j]? = some f → t = f.ty.nm) : ((l.zip fs).all fun x => decide (x.1 = x.2.ty.nm)) = true := by
 rw [List.all_eq_true]
 intro x hx
 obtain ⟨j, hj⟩ := List.mem_iff_getElem?.1 hx
 rw [List.getElem?_zip_eq_some] at hj
 exact decide_eq_true (h j x.1 x.2 hj.1 hj.2)
theorem zipN {l : List ByteArray} {fs : List Fm} {j : Nat} {t : ByteArray} {f : Fm} (h1 : l[j]? = some t) (h2 : fs[j]? = some f) (h : t ≠ f.ty.nm) : ¬ ((l.zip fs).all fun x => decide (x.1 = x.2.ty.nm)) = true := fun ha => by
 have hm : (t, f) ∈ l.zip fs := List.mem_iff_getElem?.2 ⟨j, by rw [List.getElem?_zip_eq_some]; exact ⟨h1, h2⟩⟩
 exact h (oR (List.all_eq_true.1 ha _ hm))
set_option maxHeartbeats 4000000 in
theorem c145 (n : Nm) (hn : n.Ok) (op : Int) (nm : ByteArray) (num : Int) (ks : List Tr) (b : Bool) (hl : ks.length ≤ 1000000)
 (hk : ∀ k ∈ ks, k.op ≠ 30 → Px Try.prog 36 [n.d, k.d, .bool false] (outT (typeT n k false))) :
 Px Try.prog 56 [n.d, .agg [.int .i64 op, .str nm, .int .i64 num, .sl (ks.map Tr.d)], .bool b] (outT ((argsT n ks).bind (callT n.p nm b))) := by
 refine pxB Try.func56 Try.ntmps56 Try.results56 (fun S0 O0 w0 m0 hm0 => ?_)
 repeat' first | refine st (by exact rfl) ?_ | fail
 refine gLo (fun y : List D × Nat => ⟨[(2, .d (.bool b)), (3, .ref 0 0), (4, .ref 1 0), (7, lstD y.1), (15, .d (.sl (ks.map Tr.d))), (16, .d (.int .i64 ((ks.map Tr.d).length : Int))), (17, .d (.int .i64 (y.2 : Int)))], [[.d (.sl (n.p.globals.map Tr.d)), .d (.sl (n.p.procs.map Pc.d)), .d (.map (gvs n.g)), .d (locD n.ls)], [.d (.int .i64 op), .d (.str nm), .d (.int .i64 num), .d (.sl (ks.map Tr.d))]]⟩) (fun y => ks.length - y.2) (fun y => argsI n ks y.1 y.2) ([], 0) ⟨[], rfl, rfl, Nat.zero_le _, fun e he => he, fun l hl => hl⟩ le_of (fun y hy Q' hn' he hr hp => ?_)
 obtain ⟨xs, z⟩ := y
 dsimp only at hy
 have hlen : (ks.map Tr.d).length = ks.length := List.length_map ..
 rcases xs with _ | ⟨x0, r0⟩
 all_goals dsimp only [lstD]
 all_goals repeat' first | refine st (by exact rfl) ?_ | fail
 all_goals refine cd (by exact rfl) (fun hb => ?_) (fun hb => ?_)
 · have hz : z < ks.length := by have := oR hb; omega
   obtain ⟨k, hkz⟩ : ∃ k, ks[z]? = some k := ⟨ks[z], gE hz⟩
   have q := hk k (mG hkz)
   have hxd := Tr.ds_get hkz
   have ho : ∀ kop knm knu kks, k.d = .agg [.int .i64 kop, .str knm, .int .i64 knu, .sl (List.map Tr.d kks)] → k.op = kop := fun kop knm knu kks h => by
    obtain ⟨a, b, c, d⟩ := k
    rw [Tr.d_mk] at h
    injection h with h; injection h with h _; injection h with _ h
   obtain ⟨kop, knm, knu, kks, hka⟩ := k.d_agg
   have ho := ho _ _ _ _ hka
   rw [hka] at q hxd
   repeat' first | refine st (by exact rfl) ?_ | fail
   refine el (by exact rfl) hxd ?_ (by omega)
   repeat' first | refine st (by exact rfl) ?_ | fail
   by_cases h30 : kop = 30
   · refine clp (u := wrongW 153) (by exact rfl) (x119 153 (by subst h30; rfl)) ?_
     repeat' first | refine st (by exact rfl) ?_ | fail
     refine Z59 ?_
     repeat' first | refine st (by exact rfl) ?_ | fail
     exact gPan (by rw [argsI_ty hy hkz (ho.trans h30)]; rfl)
   · refine cl (r := .tup []) (by exact rfl) (q119 153 (by simp [h30])) ?_
     repeat' first | refine st (by exact rfl) ?_ | fail
     have h30' : k.op ≠ 30 := by rw [ho]; exact h30
     replace q := q h30'
     cases ht : typeT n k false with
     | error e =>
      rw [ht] at q
      refine Z57 ?_
      repeat' first | refine st (by exact rfl) ?_ | fail
      refine Z59 ?_
      repeat' first | refine st (by exact rfl) ?_ | fail
      exact gPan (by rw [argsI_err hy hkz h30' ht]; rfl)
     | ok t =>
      rw [ht] at q
      refine Z52 ?_
      repeat' first | refine st (by exact rfl) ?_ | refine bs (by exact rfl) ?_ | refine ap (by exact rfl) ?_ | fail
      rw [wrap_succ (by omega)]
      exact Y10
 · obtain ⟨done, hx, hdl, hkd⟩ := argsI_end hy (by have := of_decide_eq_false hb; omega)
   repeat' first | refine st (by exact rfl) ?_ | fail
   refine Z45 ?_
   repeat' first | refine st (by exact rfl) ?_ | fail
   refine cl (by exact rfl) (c50 n.p nm hn.p.pl) ?_
   repeat' first | refine st (by exact rfl) ?_ | fail
   cases hf : n.p.procs.findIdx? (fun q => decide (q.nm = nm)) with
   | none =>
    refine clp (u := wrongW 9) (by exact rfl) (x119 9 (by simp [idxL, hf])) ?_
    repeat' first | refine st (by exact rfl) ?_ | fail
    exact gPan (by rw [hkd]; simp only [Except.bind, callT, hf, outT])
   | some i =>
    obtain ⟨hi, _⟩ := List.findIdx?_eq_some_iff_getElem.1 hf
    obtain ⟨p, hpi⟩ : ∃ q, n.p.procs[i]? = some q := ⟨_, gE hi⟩
    have hci : idxL (fun q : Pc => decide (q.nm = nm)) n.p.procs = (i : Int) := by simp [idxL, hf]
    have hpd : (n.p.procs.map Pc.d)[(idxL (fun q : Pc => decide (q.nm = nm)) n.p.procs).toNat]? = some (.agg [.str p.nm, .bool p.iter, .bool p.priv, .sl (p.formals.map Fm.d), .int .i64 p.result.op, .str p.result.nm, .int .i64 p.result.nu, .sl (p.result.kids.map Tr.d), .sl (p.wh.map Tr.d), .sl (p.body.map Tr.d)]) := by
     rw [hci, Int.toNat_natCast, List.getElem?_map, hpi]; rfl
    have hpok := hn.p.p p (mG hpi)
    have hcq : callT n.p nm b done = callQ p b done := by simp only [callT, hf, hpi]
    refine cl (r := .tup []) (by exact rfl) (q119 9 (by rw [hci]; simp)) ?_
    repeat' first | refine st (by exact rfl) ?_ | fail
    refine el (by exact rfl) hpd ?_ (by rw [hci]; exact Int.natCast_nonneg i)
    repeat' first | refine st (by exact rfl) ?_ | fail
    refine cl (by exact rfl) (c70 p.formals 81 [] [] staticB hpok.fl (fun f _ => c209 f)) ?_
    repeat' first | refine st (by exact rfl) ?_ | fail
    by_cases hst : p.formals.any staticB = true
    · refine clp (u := wrongW 153) (by exact rfl) (x119 153 (by simp [hst])) ?_
      repeat' first | refine st (by exact rfl) ?_ | fail
      exact gPan (by rw [hkd]; simp only [Except.bind]; rw [hcq, callQ, if_pos hst]; rfl)
    refine cl (r := .tup []) (by exact rfl) (q119 153 (by simpa using hst)) ?_
    repeat' first | refine st (by exact rfl) ?_ | fail
    by_cases hit : (b || !p.iter) = false
    · refine clp (u := wrongW 151) (by exact rfl) (x119 151 hit) ?_
      repeat' first | refine st (by exact rfl) ?_ | fail
      exact Y11
    refine cl (r := .tup []) (by exact rfl) (q119 151 (by simpa only [Bool.not_eq_false] using hit)) ?_
    repeat' first | refine st (by exact rfl) ?_ | fail
    have hxl := congrArg List.length hx
    simp only [List.length_nil, List.length_cons, List.length_map] at hxl
    by_cases hle : done.length = p.formals.length
    case neg =>
     refine clp (u := wrongW 5) (by exact rfl) (x119 5 (by rw [beq_eq_false_iff_ne]; simp only [List.length_cons, List.length_map]; omega)) ?_
     repeat' first | refine st (by exact rfl) ?_ | fail
     exact Y7
    refine cl (r := .tup []) (by exact rfl) (q119 5 (by rw [beq_iff_eq]; simp only [List.length_cons, List.length_map]; omega)) ?_
    have hd0 : done = [] := List.length_eq_zero_iff.1 hxl.symm
    repeat' first | refine st (by exact rfl) ?_ | refine cf (by exact rfl) ?_ rfl | refine gRn 1 ?_ | fail
    exact enx (by exact rfl) (by rw [hkd]; simp only [Except.bind]; rw [hcq, callQ, if_neg hst, if_neg hit, if_neg (fun h => h hle), if_pos (by rw [hd0]; rfl)]; rfl)
 · have hz : z < ks.length := by have := oR hb; omega
   obtain ⟨k, hkz⟩ : ∃ k, ks[z]? = some k := ⟨ks[z], gE hz⟩
   have q := hk k (mG hkz)
   have hxd := Tr.ds_get hkz
   have ho : ∀ kop knm knu kks, k.d = .agg [.int .i64 kop, .str knm, .int .i64 knu, .sl (List.map Tr.d kks)] → k.op = kop := fun kop knm knu kks h => by
    obtain ⟨a, b, c, d⟩ := k
    rw [Tr.d_mk] at h
    injection h with h; injection h with h _; injection h with _ h
   obtain ⟨kop, knm, knu, kks, hka⟩ := k.d_agg
   have ho := ho _ _ _ _ hka
   rw [hka] at q hxd
   have hlx : r0.length + 1 ≤ 1000000 := by
    obtain ⟨done, h5, h6, h7, _⟩ := hy
    have h8 := congrArg List.length h5
    simp only [List.length_cons, List.length_map] at h8
    omega
   repeat' first | refine st (by exact rfl) ?_ | fail
   refine el (by exact rfl) hxd ?_ (by omega)
   repeat' first | refine st (by exact rfl) ?_ | fail
   by_cases h30 : kop = 30
   · refine clp (u := wrongW 153) (by exact rfl) (x119 153 (by subst h30; rfl)) ?_
     repeat' first | refine st (by exact rfl) ?_ | fail
     refine Z59 ?_
     repeat' first | refine st (by exact rfl) ?_ | fail
     exact gPan (by rw [argsI_ty hy hkz (ho.trans h30)]; rfl)
   · refine cl (r := .tup []) (by exact rfl) (q119 153 (by simp [h30])) ?_
     repeat' first | refine st (by exact rfl) ?_ | fail
     have h30' : k.op ≠ 30 := by rw [ho]; exact h30
     replace q := q h30'
     cases ht : typeT n k false with
     | error e =>
      rw [ht] at q
      refine Z57 ?_
      repeat' first | refine st (by exact rfl) ?_ | fail
      refine Z59 ?_
      repeat' first | refine st (by exact rfl) ?_ | fail
      exact gPan (by rw [argsI_err hy hkz h30' ht]; rfl)
     | ok t =>
      rw [ht] at q
      refine Z52 ?_
      repeat' first | refine st (by exact rfl) ?_ | refine bs (by exact rfl) ?_ | refine ap (by exact rfl) ?_ | fail
      rw [wrap_succ (by omega)]
      exact Y10
 · obtain ⟨done, hx, hdl, hkd⟩ := argsI_end hy (by have := of_decide_eq_false hb; omega)
   repeat' first | refine st (by exact rfl) ?_ | fail
   refine Z45 ?_
   repeat' first | refine st (by exact rfl) ?_ | fail
   refine cl (by exact rfl) (c50 n.p nm hn.p.pl) ?_
   repeat' first | refine st (by exact rfl) ?_ | fail
   cases hf : n.p.procs.findIdx? (fun q => decide (q.nm = nm)) with
   | none =>
    refine clp (u := wrongW 9) (by exact rfl) (x119 9 (by simp [idxL, hf])) ?_
    repeat' first | refine st (by exact rfl) ?_ | fail
    exact gPan (by rw [hkd]; simp only [Except.bind, callT, hf, outT])
   | some i =>
    obtain ⟨hi, _⟩ := List.findIdx?_eq_some_iff_getElem.1 hf
    obtain ⟨p, hpi⟩ : ∃ q, n.p.procs[i]? = some q := ⟨_, gE hi⟩
    have hci : idxL (fun q : Pc => decide (q.nm = nm)) n.p.procs = (i : Int) := by simp [idxL, hf]
    have hpd : (n.p.procs.map Pc.d)[(idxL (fun q : Pc => decide (q.nm = nm)) n.p.procs).toNat]? = some (.agg [.str p.nm, .bool p.iter, .bool p.priv, .sl (p.formals.map Fm.d), .int .i64 p.result.op, .str p.result.nm, .int .i64 p.result.nu, .sl (p.result.kids.map Tr.d), .sl (p.wh.map Tr.d), .sl (p.body.map Tr.d)]) := by
     rw [hci, Int.toNat_natCast, List.getElem?_map, hpi]; rfl
    have hpok := hn.p.p p (mG hpi)
    have hcq : callT n.p nm b done = callQ p b done := by simp only [callT, hf, hpi]
    refine cl (r := .tup []) (by exact rfl) (q119 9 (by rw [hci]; simp)) ?_
    repeat' first | refine st (by exact rfl) ?_ | fail
    refine el (by exact rfl) hpd ?_ (by rw [hci]; exact Int.natCast_nonneg i)
    repeat' first | refine st (by exact rfl) ?_ | fail
    refine cl (by exact rfl) (c70 p.formals 81 [] [] staticB hpok.fl (fun f _ => c209 f)) ?_
    repeat' first | refine st (by exact rfl) ?_ | fail
    by_cases hst : p.formals.any staticB = true
    · refine clp (u := wrongW 153) (by exact rfl) (x119 153 (by simp [hst])) ?_
      repeat' first | refine st (by exact rfl) ?_ | fail
      exact gPan (by rw [hkd]; simp only [Except.bind]; rw [hcq, callQ, if_pos hst]; rfl)
    refine cl (r := .tup []) (by exact rfl) (q119 153 (by simpa using hst)) ?_
    repeat' first | refine st (by exact rfl) ?_ | fail
    by_cases hit : (b || !p.iter) = false
    · refine clp (u := wrongW 151) (by exact rfl) (x119 151 hit) ?_
      repeat' first | refine st (by exact rfl) ?_ | fail
      exact Y11
    refine cl (r := .tup []) (by exact rfl) (q119 151 (by simpa only [Bool.not_eq_false] using hit)) ?_
    repeat' first | refine st (by exact rfl) ?_ | fail
    have hxl := congrArg List.length hx
    simp only [List.length_nil, List.length_cons, List.length_map] at hxl
    by_cases hle : done.length = p.formals.length
    case neg =>
     refine clp (u := wrongW 5) (by exact rfl) (x119 5 (by rw [beq_eq_false_iff_ne]; simp only [List.length_cons, List.length_map]; omega)) ?_
     repeat' first | refine st (by exact rfl) ?_ | fail
     exact Y7
    refine cl (r := .tup []) (by exact rfl) (q119 5 (by rw [beq_iff_eq]; simp only [List.length_cons, List.length_map]; omega)) ?_
    repeat' first | refine st (by exact rfl) ?_ | fail
    refine gLo (fun z : Nat => ⟨[(11, .ref 2 0), (65, .d (.sl (x0 :: r0))), (66, .d (.int .i64 ((x0 :: r0).length : Int))), (67, .d (.int .i64 (z : Int)))], [[.d (.sl (n.p.globals.map Tr.d)), .d (.sl (n.p.procs.map Pc.d)), .d (.map (gvs n.g)), .d (locD n.ls)], [.d (.int .i64 op), .d (.str nm), .d (.int .i64 num), .d (.sl (ks.map Tr.d))], [.d (.str p.nm), .d (.bool p.iter), .d (.bool p.priv), .d (.sl (p.formals.map Fm.d)), .d (.int .i64 p.result.op), .d (.str p.result.nm), .d (.int .i64 p.result.nu), .d (.sl (p.result.kids.map Tr.d)), .d (.sl (p.wh.map Tr.d)), .d (.sl (p.body.map Tr.d))]]⟩) (fun z => done.length - z) (fun z => z ≤ done.length ∧ ∀ (j : Nat) (t : ByteArray) (f : Fm), j < z → done[j]? = some t → p.formals[j]? = some f → t = f.ty.nm) 0 ⟨Nat.zero_le _, fun j _ _ h => absurd h (Nat.not_lt_zero _)⟩ le_of (fun z hz2 Q2 hn2 he2 hr2 hp2 => ?_)
    obtain ⟨hz2, hzp⟩ := hz2
    repeat' first | refine st (by exact rfl) ?_ | fail
    refine cd (by exact rfl) (fun hb2 => ?_) (fun hb2 => ?_)
    · have hzl : z < done.length := by have := oR hb2; simp only [List.length_cons] at this; omega
      obtain ⟨t, htz⟩ : ∃ t, done[z]? = some t := ⟨_, gE hzl⟩
      obtain ⟨f, hfz⟩ : ∃ f, p.formals[z]? = some f := ⟨_, gE (by omega)⟩
      have hxt : (x0 :: r0)[z]? = some (.str t) := by rw [hx, List.getElem?_map, htz]; rfl
      have hfd := fm_get hfz
      repeat' first | refine st (by exact rfl) ?_ | fail
      refine el (by exact rfl) hxt ?_ (by omega)
      repeat' first | refine st (by exact rfl) ?_ | fail
      refine el (by exact rfl) hfd ?_ (by omega)
      repeat' first | refine st (by exact rfl) ?_ | fail
      by_cases htf : t = f.ty.nm
      · refine cl (r := .tup []) (by exact rfl) (q119 13 (by simp [htf])) ?_
        repeat' first | refine st (by exact rfl) ?_ | fail
        rw [wrap_succ (by omega)]
        refine toL (hn2 _ (z + 1) ⟨hzl, fun j t' f' hj h1 h2 => ?_⟩ (by omega) le_of)
        by_cases hjz : j = z
        · subst hjz
          rw [htz] at h1; rw [hfz] at h2
          injection h1 with h1; injection h2 with h2
          subst h1; subst h2
          exact htf
        · exact hzp j t' f' (by omega) h1 h2
      · refine clp (u := wrongW 13) (by exact rfl) (x119 13 (by simp [htf])) ?_
        repeat' first | refine st (by exact rfl) ?_ | fail
        refine toL (hp2 _ _ ?_)
        repeat' first | refine st (by exact rfl) ?_ | fail
        exact gPan (by rw [hkd]; simp only [Except.bind]; rw [hcq, callQ, if_neg hst, if_neg hit, if_neg (fun h => h hle), if_neg (zipN htz hfz htf)]; rfl)
    · have hzl : done.length ≤ z := by have := of_decide_eq_false hb2; simp only [List.length_cons] at this; omega
      repeat' first | refine st (by exact rfl) ?_ | fail
      refine toL (he2 _ _ ?_)
      repeat' first | refine st (by exact rfl) ?_ | fail
      exact enx (by exact rfl) (by rw [hkd]; simp only [Except.bind]; rw [hcq, callQ, if_neg hst, if_neg hit, if_neg (fun h => h hle), if_pos (zipA fun j t f h1 h2 => hzp j t f (by have := (lG h1); omega) h1 h2)]; rfl)
end
section
theorem whenS_size {b : Bool} {t : ByteArray} {m : Nat} (h : t.size ≤ m) : (whenS b t).size ≤ m := by
 unfold whenS
 split
 · exact h
 · exact Nat.zero_le _
theorem ruleT_size {m : Nat} (t : ByteArray) : ∀ {l : List (ByteArray × ByteArray)}, (∀ x ∈ l, x.2.size ≤ m) → (ruleT l t).size ≤ m
 | [], _ => Nat.zero_le _
 | (k, v) :: r, h => by
  rw [ruleT]
  split
  · exact h (k, v) (by simp)
  · exact ruleT_size t fun x hx => h x (by simp [hx])
theorem ruU_size (nm : ByteArray) : ∀ x ∈ ruU nm, x.2.size ≤ 1000000 := by
 unfold ruU
 intro x hx
 split at hx <;> simp only [List.mem_cons, List.not_mem_nil, or_false] at hx <;> subst hx <;> decide
theorem ruB_size (nm : ByteArray) : ∀ x ∈ ruB nm, x.2.size ≤ 1000000 := by
 unfold ruB
 intro x hx
 repeat' split at hx
 all_goals simp only [List.mem_cons, List.not_mem_nil, or_false] at hx
 all_goals (rcases hx with rfl | rfl <;> decide) <;> (subst hx; decide)
theorem fieldT_size (nm t : ByteArray) : (fieldT nm t).size ≤ 1000000 := by
 unfold fieldT
 split
 · decide
 · split
   · rename_i h
     rw [Bool.and_eq_true] at h
     have := isArrB_size h.2
     rw [ByteArray.size_append, ByteArray.size_extract, this]
     decide
   · split <;> decide
theorem opGet_size (nm : ByteArray) : (opGet nm).2.1.size ≤ 1000000 := by
 have hall : (opTab.all fun x => decide (x.2.2.1.size ≤ 1000000)) = true := by decide
 unfold opGet
 split
 · rename_i x hx
   exact oR (List.all_eq_true.1 hall x (List.mem_of_find?_eq_some hx))
 · decide
theorem ite_size {c : Prop} [Decidable c] {a b : ByteArray} {m : Nat} (ha : a.size ≤ m) (hb : b.size ≤ m) : (if c then a else b).size ≤ m := by
 split
 · exact ha
 · exact hb
theorem opT_size (op : Int) (nm : ByteArray) (l : List ByteArray) (h : ∀ t ∈ l, t.size ≤ 1000000) : (opT op nm l).size ≤ 1000000 := by
 unfold opT
 cases l with
 | nil => exact Nat.zero_le _
 | cons a r =>
  have ha := h a (by simp)
  rcases r with _ | ⟨b, r⟩
  · dsimp only
    repeat' with_reducible refine ite_size ?_ ?_
    all_goals first | exact ruleT_size _ (ruU_size nm) | exact fieldT_size _ _ | exact whenS_size ha | exact whenS_size (opGet_size nm) | exact whenS_size (by decide) | exact Nat.zero_le _ | fail
  · have hb := h b (by simp)
    rcases r with _ | ⟨c, r⟩ <;> dsimp only <;> (repeat' with_reducible refine ite_size ?_ ?_)
    all_goals first | exact ruleT_size _ (ruU_size nm) | exact ruleT_size _ (ruB_size nm) | exact fieldT_size _ _ | exact whenS_size ha | exact whenS_size hb | exact whenS_size (opGet_size nm) | exact whenS_size (by decide) | exact Nat.zero_le _ | fail
theorem kidsE {ks : List Tr} {s : ByteArray} (h : kidsB ks s = true) (hs : ∀ i, i < s.size → ((s[i]!).toNat : Int) = 101) : ∀ k ∈ ks, isExprB k.op = true := by
 intro k hk
 have hl := kidsB_len h
 unfold kidsB at h
 rw [Bool.and_eq_true] at h
 obtain ⟨i, hi⟩ := List.getElem?_of_mem hk
 have hlt := (lG hi)
 have hm : (k, i) ∈ ks.zipIdx := by
  rw [List.mem_iff_getElem?]
  exact ⟨i, by rw [List.getElem?_zipIdx, hi]; simp⟩
 have h2 := List.all_eq_true.1 h.2 (k, i) hm
 dsimp only at h2
 rw [kindOk, if_pos (hs i (by omega))] at h2
 exact h2
end
section
theorem c80l1 (n : Nm) (nm : ByteArray) (num : Int) (ks : List Tr) (b : Bool) : Px Try.prog 36 [n.d, .agg [.int .i64 1, .str nm, .int .i64 num, .sl (ks.map Tr.d)], .bool b] (.inl (.d (.str sInt))) := by
 refine pxB Try.func36 Try.ntmps36 Try.results36 (fun S0 O0 w0 m0 hm0 => ?_)
 repeat' first | refine st (by exact rfl) ?_ | refine ct (by exact rfl) ?_ rfl | refine cf (by exact rfl) ?_ rfl | fail
 exact Y4
theorem c80l16 (n : Nm) (nm : ByteArray) (num : Int) (ks : List Tr) (b : Bool) : Px Try.prog 36 [n.d, .agg [.int .i64 16, .str nm, .int .i64 num, .sl (ks.map Tr.d)], .bool b] (.inl (.d (.str sInt))) := by
 refine pxB Try.func36 Try.ntmps36 Try.results36 (fun S0 O0 w0 m0 hm0 => ?_)
 repeat' first | refine st (by exact rfl) ?_ | refine ct (by exact rfl) ?_ rfl | refine cf (by exact rfl) ?_ rfl | fail
 exact Y4
theorem c80l17 (n : Nm) (nm : ByteArray) (num : Int) (ks : List Tr) (b : Bool) : Px Try.prog 36 [n.d, .agg [.int .i64 17, .str nm, .int .i64 num, .sl (ks.map Tr.d)], .bool b] (.inl (.d (.str sInt))) := by
 refine pxB Try.func36 Try.ntmps36 Try.results36 (fun S0 O0 w0 m0 hm0 => ?_)
 repeat' first | refine st (by exact rfl) ?_ | refine ct (by exact rfl) ?_ rfl | refine cf (by exact rfl) ?_ rfl | fail
 exact Y4
theorem c80l2 (n : Nm) (nm : ByteArray) (num : Int) (ks : List Tr) (b : Bool) : Px Try.prog 36 [n.d, .agg [.int .i64 2, .str nm, .int .i64 num, .sl (ks.map Tr.d)], .bool b] (.inl (.d (.str sBool))) := by
 refine pxB Try.func36 Try.ntmps36 Try.results36 (fun S0 O0 w0 m0 hm0 => ?_)
 repeat' first | refine st (by exact rfl) ?_ | refine ct (by exact rfl) ?_ rfl | refine cf (by exact rfl) ?_ rfl | fail
 exact Y4
theorem c80name (n : Nm) (hn : n.Ok) (nm : ByteArray) (hs : nm.size ≤ 140737488355328) (num : Int) (ks : List Tr) (b : Bool) : Px Try.prog 36 [n.d, .agg [.int .i64 4, .str nm, .int .i64 num, .sl (ks.map Tr.d)], .bool b] (outT (lookE (lookN n nm))) := by
 have q := c144 n hn nm hs
 cases hf : lookN n nm with
 | some x =>
  rw [hf] at q
  refine pxB Try.func36 Try.ntmps36 Try.results36 (fun S0 O0 w0 m0 hm0 => ?_)
  repeat' first | refine st (by exact rfl) ?_ | refine ct (by exact rfl) ?_ rfl | refine cf (by exact rfl) ?_ rfl | fail
  refine Z52 ?_
  dsimp only [Gv.d]
  repeat' first | refine st (by exact rfl) ?_ | refine ct (by exact rfl) ?_ rfl | refine cf (by exact rfl) ?_ rfl | fail
  exact Y4
 | none =>
  rw [hf] at q
  refine pxB Try.func36 Try.ntmps36 Try.results36 (fun S0 O0 w0 m0 hm0 => ?_)
  repeat' first | refine st (by exact rfl) ?_ | refine ct (by exact rfl) ?_ rfl | refine cf (by exact rfl) ?_ rfl | fail
  refine Z57 ?_
  repeat' first | refine st (by exact rfl) ?_ | refine ct (by exact rfl) ?_ rfl | refine cf (by exact rfl) ?_ rfl | fail
  exact gPan rfl
theorem c80call (n : Nm) (hn : n.Ok) (nm : ByteArray) (num : Int) (ks : List Tr) (b : Bool) (hl : ks.length ≤ 1000000)
 (hk : ∀ k ∈ ks, k.op ≠ 30 → Px Try.prog 36 [n.d, k.d, .bool false] (outT (typeT n k false))) : Px Try.prog 36 [n.d, .agg [.int .i64 13, .str nm, .int .i64 num, .sl (ks.map Tr.d)], .bool b] (outT ((argsT n ks).bind (callT n.p nm b))) := by
 have q := c145 n hn 13 nm num ks b hl hk
 cases hf : (argsT n ks).bind (callT n.p nm b) with
 | ok s =>
  rw [hf] at q
  refine pxB Try.func36 Try.ntmps36 Try.results36 (fun S0 O0 w0 m0 hm0 => ?_)
  repeat' first | refine st (by exact rfl) ?_ | refine ct (by exact rfl) ?_ rfl | refine cf (by exact rfl) ?_ rfl | fail
  refine Z52 ?_
  repeat' first | refine st (by exact rfl) ?_ | refine ct (by exact rfl) ?_ rfl | refine cf (by exact rfl) ?_ rfl | fail
  exact Y4
 | error e =>
  rw [hf] at q
  refine pxB Try.func36 Try.ntmps36 Try.results36 (fun S0 O0 w0 m0 hm0 => ?_)
  repeat' first | refine st (by exact rfl) ?_ | refine ct (by exact rfl) ?_ rfl | refine cf (by exact rfl) ?_ rfl | fail
  refine Z57 ?_
  repeat' first | refine st (by exact rfl) ?_ | refine ct (by exact rfl) ?_ rfl | refine cf (by exact rfl) ?_ rfl | fail
  exact gPan rfl
end
end Go.Proofs.Ytklkbfpjimeaoaa
