import Derived.Test.YtklkbfpjimeaoaaM21
import Derived.Test.YtklkbfpjimeaoaaM11
import Derived.Test.YtklkbfpjimeaoaaM10
import Derived.Test.YtklkbfpjimeaoaaM12
/- Contracts of functions. Conditions: none. -/
set_option linter.unusedSimpArgs false
set_option linter.unusedVariables false
namespace Go.Proofs.Ytklkbfpjimeaoaa
open Go Go.Proofs.Ytklkbfpjimeaoaa.E
section
theorem all_zip {α : Type} (q : α → Bool) : ∀ (xs : List α), (xs.zipIdx.all fun x => q x.1) = xs.all q := by
 intro xs
 rw [Bool.eq_iff_iff, List.all_eq_true, List.all_eq_true]
 constructor
 · intro h x hx
   obtain ⟨i, hi⟩ := List.getElem?_of_mem hx
   exact h (x, i) (List.mem_zipIdx_iff_getElem?.2 hi)
 · rintro h ⟨x, i⟩ hx
   exact h x (mG (List.mem_zipIdx_iff_getElem?.1 hx))
def allE (ks : List Tr) : Bool := ks.all fun k => isExprB k.op
theorem kidsB_e {s : ByteArray} (hs : ∀ i, i < s.size → s[i]! = 101) (ks : List Tr) : kidsB ks s = (decide (ks.length = s.size) && allE ks) := by
 unfold kidsB
 by_cases h : ks.length = s.size
 · rw [decide_eq_true h, Bool.true_and, Bool.true_and, allE, ← all_zip (fun k : Tr => isExprB k.op)]
   rw [Bool.eq_iff_iff, List.all_eq_true, List.all_eq_true]
   have hk : ∀ x ∈ ks.zipIdx, kindOk ((s[x.2]!).toNat : Nat) x.1.op = isExprB x.1.op := by
    rintro ⟨k, i⟩ hx
    have hi := (lG (List.mem_zipIdx_iff_getElem?.1 hx))
    show kindOk ((s[i]!).toNat : Nat) k.op = _
    rw [hs i (by omega)]
    rfl
   constructor
   · intro h x hx; rw [← hk x hx]; exact h x hx
   · intro h x hx; rw [hk x hx]; exact h x hx
 · rw [decide_eq_false h, Bool.false_and, Bool.false_and]
theorem e1s : ∀ i, i < e1.size → e1[i]! = 101 := by decide
theorem e2s : ∀ i, i < ee.size → ee[i]! = 101 := by decide
theorem e3s : ∀ i, i < eee.size → eee[i]! = 101 := by decide
theorem exs (n : Nat) : ∀ i, i < (eee.extract 0 n).size → (eee.extract 0 n)[i]! = 101 := by
 intro i hi
 have h3 : eee.size = 3 := rfl
 rw [ByteArray.size_extract] at hi
 have hlt : i < 3 := by omega
 have hn : i < n := by omega
 have hi' : i < (eee.extract 0 n).size := by rw [ByteArray.size_extract]; exact hi
 rw [getElem!_pos (eee.extract 0 n) i hi', ByteArray.getElem_extract]
 have h := e3s i (by rw [h3]; exact hlt)
 rw [getElem!_pos eee i (by rw [h3]; exact hlt)] at h
 simpa using h
def Kin (f : Tr → Tr) (ks : List Tr) : Prop := ∀ k ∈ ks, isExprB (f k).op = isExprB k.op ∧ ((f k).op == 30) = (k.op == 30)
variable {f : Tr → Tr} {ks : List Tr}
theorem Kin.allE (h : Kin f ks) : allE (ks.map f) = allE ks := by
 unfold Go.Proofs.Ytklkbfpjimeaoaa.allE
 rw [Bool.eq_iff_iff, List.all_map, List.all_eq_true, List.all_eq_true]
 constructor
 · intro h1 k hk; rw [← (h k hk).1]; exact h1 k hk
 · intro h1 k hk; show isExprB (f k).op = true; rw [(h k hk).1]; exact h1 k hk
theorem Kin.kidsB (h : Kin f ks) {s : ByteArray} (hs : ∀ i, i < s.size → s[i]! = 101) : kidsB (ks.map f) s = kidsB ks s := by
 rw [kidsB_e hs, kidsB_e hs, h.allE, List.length_map]
theorem Kin.every (h : Kin f ks) : everyB (fun op => isExprB op || op == 30) (ks.map f) = everyB (fun op => isExprB op || op == 30) ks := by
 unfold everyB
 rw [List.any_map]
 congr 1
 rw [Bool.eq_iff_iff, List.any_eq_true, List.any_eq_true]
 have he : ∀ k ∈ ks, ((fun k : Tr => !(isExprB k.op || k.op == 30)) ∘ f) k = !(isExprB k.op || k.op == 30) := fun k hk => by
  show (!(isExprB (f k).op || (f k).op == 30)) = _
  rw [(h k hk).1, (h k hk).2]
 constructor
 · rintro ⟨k, hk, h1⟩; exact ⟨k, hk, by rw [← he k hk]; exact h1⟩
 · rintro ⟨k, hk, h1⟩; exact ⟨k, hk, by rw [he k hk]; exact h1⟩
theorem Kin.forms (h : Kin f ks) {op num : Int} {nm : ByteArray} {ts : List ByteArray} (hs : ∀ s ∈ ts, ∀ i, i < s.size → s[i]! = 101) : formsB ts (.mk op nm num (ks.map f)) = formsB ts (.mk op nm num ks) := by
 unfold formsB
 rw [Bool.eq_iff_iff, List.any_eq_true, List.any_eq_true]
 constructor
 · rintro ⟨s, h1, h2⟩; exact ⟨s, h1, by rw [Tr.kids_mk] at h2 ⊢; rw [← h.kidsB (hs s h1)]; exact h2⟩
 · rintro ⟨s, h1, h2⟩; exact ⟨s, h1, by rw [Tr.kids_mk] at h2 ⊢; rw [h.kidsB (hs s h1)]; exact h2⟩
theorem Kin.tab (h : Kin f ks) {op num : Int} {nm : ByteArray} : ∀ x ∈ shapeTab, isExprB x.1 = true → x.2.ok (.mk op nm num (ks.map f)) = x.2.ok (.mk op nm num ks) := by
 intro x hx he
 simp only [shapeTab, List.mem_cons, List.not_mem_nil, or_false] at hx
 rcases hx with rfl | rfl | rfl | rfl | rfl | rfl | rfl | rfl | rfl | rfl | rfl | rfl | rfl | rfl | rfl | rfl | rfl | rfl | rfl | rfl | rfl | rfl | rfl | rfl | rfl | rfl | rfl | rfl | rfl | rfl | rfl | rfl | rfl <;> first | exact absurd he (by decide) | exact h.forms (by decide) | (show rule154 _ = rule154 _; unfold rule154; rw [Tr.kids_mk, Tr.kids_mk, List.length_map]; rfl)
variable {op : Int}
theorem shGet_tab {s : Sh} (h : shGet op = some s) : ∃ x ∈ shapeTab, x.1 = op ∧ x.2 = s := by
 unfold shGet at h
 cases hf : shapeTab.find? (fun x => decide (x.1 = op)) with
 | none => rw [hf] at h; cases h
 | some x =>
  rw [hf] at h
  injection h with h
  exact ⟨x, List.mem_of_find?_eq_some hf, by simpa using List.find?_some hf, h⟩
theorem ne_of_expr {k : Int} (ho : isExprB op = true) (hk : isExprB k = false) : (op == k) = false := by
 rw [beq_eq_false_iff_ne]
 rintro rfl
 rw [ho] at hk
 cases hk
theorem Kin.right (h : Kin f ks) {op num : Int} {nm : ByteArray} (ho : isExprB op = true) : rightB (.mk op nm num (ks.map f)) = rightB (.mk op nm num ks) := by
 have h2 : otherB (.mk op nm num (ks.map f)) = otherB (.mk op nm num ks) := by
  rw [otherB, otherB, h.every, h.kidsB (exs _), h.kidsB e2s, h.kidsB e1s, List.length_map, ne_of_expr ho (show isExprB 30 = false from rfl), ne_of_expr ho (show isExprB 50 = false from rfl)]
  simp only [Bool.false_eq_true, if_false]
 rw [rightB, rightB, h2]
 cases hs : shGet op with
 | none => rfl
 | some s =>
  obtain ⟨x, hx, rfl, rfl⟩ := shGet_tab hs
  have ht := h.tab (op := x.1) (num := num) (nm := nm) x hx ho
  obtain ⟨xo, nms, nb, g, caps, ok⟩ := x
  dsimp only at ht ⊢
  rw [ht]
def EK (op : Int) : Prop := isExprB op = true ∨ op = 30
theorem EK.ne {k : Int} (h : EK op) (h1 : isExprB k = false) (h2 : k ≠ 30) : (op == k) = false := by
 rcases h with h | rfl
 · exact ne_of_expr h h1
 · rw [beq_eq_false_iff_ne]; omega
theorem ValOk.ex {v : Tr} (h : ValOk v) : isExprB v.op = true ∧ (v.op == 30) = false := by
 rcases h with ⟨n, _, rfl⟩ | ⟨b, rfl⟩
 · exact ⟨rfl, rfl⟩
 · exact ⟨rfl, rfl⟩
mutual
/-- A Name that is used. -/
def Tr.uses (x : ByteArray) : Tr → Bool
 | .mk op nm _ ks => if (op == 4) = true then decide (nm = x) else Tr.usess x ks
def Tr.usess (x : ByteArray) : List Tr → Bool
 | [] => false
 | k :: r => k.uses x || Tr.usess x r
end
theorem kl_snoc (l : List (ByteArray × Tr)) (c : ByteArray × Tr) : kl (l ++ [c]) = (c.1, some c.2) :: kl l := by
 unfold kl
 rw [List.map_append, List.reverse_append]; rfl
end
section
def bareB (t : Tr) : Bool := decide (t.nm = ⟨#[]⟩) && t.nu == 0
end
section
def methR (nm : ByteArray) : Int × ByteArray × ByteArray := match opTab.find? (fun x => decide (x.1 = nm)) with
 | some x => (x.2.2.2, x.2.1, x.2.2.1)
 | none => (-1, ⟨#[]⟩, ⟨#[]⟩)
end
section
def loopRB : Tr → Bool
 | .mk op name num ks => decide (name = ⟨#[]⟩) && rule157 (.mk op name num ks)
end
section
theorem shGet10 : shGet 10 = some ⟨none, false, 90, [.ptr (.sl ([⟨#[101]⟩, ⟨#[101, 101]⟩].map .str))], (formsB [⟨#[101]⟩, ⟨#[101, 101]⟩])⟩ := rfl
theorem shGet12 : shGet 12 = some ⟨none, false, 90, [.ptr (.sl ([⟨#[101, 101]⟩, ⟨#[101, 101, 101]⟩].map .str))], (formsB [⟨#[101, 101]⟩, ⟨#[101, 101, 101]⟩])⟩ := rfl
theorem shGet16 : shGet 16 = some ⟨none, false, 90, [.ptr (.sl ([⟨#[]⟩].map .str))], (formsB [⟨#[]⟩])⟩ := rfl
theorem shGet17 : shGet 17 = some ⟨none, false, 90, [.ptr (.sl ([⟨#[]⟩].map .str))], (formsB [⟨#[]⟩])⟩ := rfl
theorem shGet18 : shGet 18 = some ⟨(some (⟨#[43]⟩, [⟨#[42]⟩, ⟨#[109, 105, 110]⟩, ⟨#[109, 97, 120]⟩])), false, 90, [.ptr (.sl ([⟨#[101]⟩].map .str))], (formsB [⟨#[101]⟩])⟩ := rfl
theorem shGet31 : shGet 31 = some ⟨none, false, 90, [.ptr (.sl ([⟨#[101]⟩].map .str))], (formsB [⟨#[101]⟩])⟩ := rfl
theorem shGet66 : shGet 66 = some ⟨none, false, 79, [], (fun t => everyB isStmtB t.kids)⟩ := rfl
def nmOk : Option (ByteArray × List ByteArray) → ByteArray → Bool
 | none, nm => decide (nm = ⟨#[]⟩)
 | some x, nm => hasB (x.1 :: x.2) nm
theorem right_tab {op num : Int} {nm : ByteArray} {ks : List Tr} {s : Sh} (h2 : (otherB (.mk op nm num ks)).2 = false) (hs : shGet op = some s) (h0 : (op == 0) = false) : rightB (.mk op nm num ks) = (((s.num || num == 0) && nmOk s.names nm) && s.ok (.mk op nm num ks)) := by
 obtain ⟨nms, nb, g, caps, ok⟩ := s
 rw [rightB, if_neg (by rw [h2]; decide), hs]
 dsimp only
 rw [h0, Bool.false_or]
 rcases nms with _ | x
 · dsimp only [nmOk]
   by_cases hn : nm = ⟨#[]⟩
   · cases nb <;> cases hz : (num == 0) <;> simp [bne, hn, hz]
   · cases nb <;> cases hz : (num == 0) <;> simp [bne, hn, hz]
 · dsimp only [nmOk]
   by_cases hh : hasB (x.1 :: x.2) nm = true
   · cases nb <;> cases hz : (num == 0) <;> simp [bne, hz, hh]
   · rw [Bool.not_eq_true] at hh
     cases nb <;> cases hz : (num == 0) <;> simp [bne, hz, hh]
theorem kids0 (ks : List Tr) : kidsB ks ⟨#[]⟩ = ((ks.length : Int) == 0) := by
 cases ks with
 | nil => rfl
 | cons k r =>
  unfold kidsB
  rw [decide_eq_false (by show ¬ (r.length + 1 = 0); omega), Bool.false_and]
  symm; rw [beq_eq_false_iff_ne, List.length_cons]; omega
theorem meth_facts (nm : ByteArray) : (-1 ≤ (methR nm).1 ∧ (methR nm).1 ≤ 2) ∧ opHas nm = decide ((methR nm).1 ≥ 0) ∧ (opHas nm = true → (opGet nm).2.2 = (methR nm).1) := by
 have hall : (opTab.all fun x => decide (0 ≤ x.2.2.2) && decide (x.2.2.2 ≤ 2)) = true := by decide
 unfold methR opGet opHas
 cases h : opTab.find? (fun x => decide (x.1 = nm)) with
 | none =>
  refine ⟨⟨by decide, by decide⟩, ?_, fun h2 => ?_⟩
  · rw [show (opTab.any fun x => decide (x.1 = nm)) = false from by
     rw [List.any_eq_false]; intro x hx; have := List.find?_eq_none.1 h x hx; simpa using this]
    rfl
  · exfalso
    rw [List.any_eq_true] at h2
    obtain ⟨x, hx, h3⟩ := h2
    exact List.find?_eq_none.1 h x hx h3
 | some x =>
  have hx := List.all_eq_true.1 hall x (List.mem_of_find?_eq_some h)
  rw [Bool.and_eq_true, decide_eq_true_eq, decide_eq_true_eq] at hx
  refine ⟨⟨by show -1 ≤ x.2.2.2; omega, hx.2⟩, ?_, fun _ => rfl⟩
  rw [show (opTab.any fun x => decide (x.1 = nm)) = true from List.any_eq_true.2 ⟨x, List.mem_of_find?_eq_some h, by simpa using List.find?_some h⟩]
  symm; exact decide_eq_true hx.1
theorem J12 {A : Prop} (h : A := by simp only [nmOk, formsB, List.any_cons, List.any_nil, Bool.or_false, Bool.true_or, Bool.false_or, Bool.true_and, bareB, Tr.nm_mk, Tr.nu_mk, Tr.kids_mk, kids0, rule154, rule155, rule158, rule161, loopRB, hasB]; try first | rfl | ac_rfl) : A := h
theorem right1 (num : Int) (name : ByteArray) (ks : List Tr) : rightB (.mk 1 name num ks) = (decide (name = ⟨#[]⟩) && (ks.length : Int) == 0) := by
 rw [right_tab (s := ⟨_, _, _, _, _⟩) rfl shGet1 rfl]
 exact J12
theorem right2 (num : Int) (name : ByteArray) (ks : List Tr) : rightB (.mk 2 name num ks) = ((decide (name = ⟨#[]⟩) && (num == 0 || num == 1)) && (ks.length : Int) == 0) := by
 rw [right_tab (s := ⟨_, _, _, _, _⟩) rfl shGet2 rfl]
 exact J12
theorem right5 (num : Int) (name : ByteArray) (ks : List Tr) : rightB (.mk 5 name num ks) = (((decide (name = ⟨#[45]⟩) || decide (name = ⟨#[33]⟩)) && num == 0) && kidsB ks ⟨#[101]⟩) := by
 rw [right_tab (s := ⟨_, _, _, _, _⟩) rfl shGet5 rfl]
 exact J12
theorem right6 (num : Int) (name : ByteArray) (ks : List Tr) : rightB (.mk 6 name num ks) = ((hasB [⟨#[43]⟩, ⟨#[45]⟩, ⟨#[42]⟩, ⟨#[47]⟩, ⟨#[37]⟩, ⟨#[61, 61]⟩, ⟨#[33, 61]⟩, ⟨#[60]⟩, ⟨#[60, 61]⟩, ⟨#[62]⟩, ⟨#[62, 61]⟩, ⟨#[38, 38]⟩, ⟨#[124, 124]⟩] name && num == 0) && kidsB ks ⟨#[101, 101]⟩) := by
 rw [right_tab (s := ⟨_, _, _, _, _⟩) rfl shGet6 rfl]
 exact J12
theorem right7 (num : Int) (name : ByteArray) (ks : List Tr) : rightB (.mk 7 name num ks) = (bareB (.mk 7 name num ks) && kidsB ks ⟨#[101, 101]⟩) := by
 rw [right_tab (s := ⟨_, _, _, _, _⟩) rfl shGet7 rfl]
 exact J12
theorem right8 (num : Int) (name : ByteArray) (ks : List Tr) : rightB (.mk 8 name num ks) = (bareB (.mk 8 name num ks) && kidsB ks ⟨#[101, 101]⟩) := by
 rw [right_tab (s := ⟨_, _, _, _, _⟩) rfl shGet8 rfl]
 exact J12
theorem right9 (num : Int) (name : ByteArray) (ks : List Tr) : rightB (.mk 9 name num ks) = (bareB (.mk 9 name num ks) && kidsB ks ⟨#[101, 101]⟩) := by
 rw [right_tab (s := ⟨_, _, _, _, _⟩) rfl shGet9 rfl]
 exact J12
theorem right10 (num : Int) (name : ByteArray) (ks : List Tr) : rightB (.mk 10 name num ks) = (bareB (.mk 10 name num ks) && (kidsB ks ⟨#[101]⟩ || kidsB ks ⟨#[101, 101]⟩)) := by
 rw [right_tab (s := ⟨_, _, _, _, _⟩) rfl shGet10 rfl]
 exact J12
theorem right12 (num : Int) (name : ByteArray) (ks : List Tr) : rightB (.mk 12 name num ks) = (bareB (.mk 12 name num ks) && (kidsB ks ⟨#[101, 101]⟩ || kidsB ks ⟨#[101, 101, 101]⟩)) := by
 rw [right_tab (s := ⟨_, _, _, _, _⟩) rfl shGet12 rfl]
 exact J12
theorem right14 (num : Int) (name : ByteArray) (ks : List Tr) : rightB (.mk 14 name num ks) = ((hasB [⟨#[115, 105, 122, 101]⟩, ⟨#[108, 111, 119]⟩, ⟨#[104, 105, 103, 104]⟩, ⟨#[115, 116, 114, 105, 100, 101]⟩, ⟨#[100, 111, 109, 97, 105, 110]⟩] name && num == 0) && kidsB ks ⟨#[101]⟩) := by
 rw [right_tab (s := ⟨_, _, _, _, _⟩) rfl shGet14 rfl]
 exact J12
theorem right16 (num : Int) (name : ByteArray) (ks : List Tr) : rightB (.mk 16 name num ks) = (bareB (.mk 16 name num ks) && (ks.length : Int) == 0) := by
 rw [right_tab (s := ⟨_, _, _, _, _⟩) rfl shGet16 rfl]
 exact J12
theorem right17 (num : Int) (name : ByteArray) (ks : List Tr) : rightB (.mk 17 name num ks) = (bareB (.mk 17 name num ks) && (ks.length : Int) == 0) := by
 rw [right_tab (s := ⟨_, _, _, _, _⟩) rfl shGet17 rfl]
 exact J12
theorem right18 (num : Int) (name : ByteArray) (ks : List Tr) : rightB (.mk 18 name num ks) = ((hasB [⟨#[43]⟩, ⟨#[42]⟩, ⟨#[109, 105, 110]⟩, ⟨#[109, 97, 120]⟩] name && num == 0) && kidsB ks ⟨#[101]⟩) := by
 rw [right_tab (s := ⟨_, _, _, _, _⟩) rfl shGet18 rfl]
 exact J12
theorem right19 (num : Int) (name : ByteArray) (ks : List Tr) : rightB (.mk 19 name num ks) = (bareB (.mk 19 name num ks) && kidsB ks ⟨#[101, 101, 101]⟩) := by
 rw [right_tab (s := ⟨_, _, _, _, _⟩) rfl shGet19 rfl]
 exact J12
theorem right31 (num : Int) (name : ByteArray) (ks : List Tr) : rightB (.mk 31 name num ks) = (bareB (.mk 31 name num ks) && kidsB ks ⟨#[101]⟩) := by
 rw [right_tab (s := ⟨_, _, _, _, _⟩) rfl shGet31 rfl]
 exact J12
theorem right66 (num : Int) (name : ByteArray) (ks : List Tr) : rightB (.mk 66 name num ks) = (everyB isStmtB ks && bareB (.mk 66 name num ks)) := by
 rw [right_tab (s := ⟨_, _, _, _, _⟩) rfl shGet66 rfl]
 exact J12
theorem right4 (num : Int) (name : ByteArray) (ks : List Tr) : rightB (.mk 4 name num ks) = ((nameB name && num == 0) && (ks.length : Int) == 0) := rfl
theorem right30 (num : Int) (name : ByteArray) (ks : List Tr) : rightB (.mk 30 name num ks) = typedB (.mk 30 name num ks) := rfl
theorem right50 (num : Int) (name : ByteArray) (ks : List Tr) : rightB (.mk 50 name num ks) = varB (.mk 50 name num ks) := rfl
theorem right13 (num : Int) (name : ByteArray) (ks : List Tr) : rightB (.mk 13 name num ks) = (everyB (fun op => isExprB op || op == 30) ks && (nameB name && num == 0)) := by
 rw [show rightB (.mk 13 name num ks) = ((nameB name && num == 0) && everyB (fun op => isExprB op || op == 30) ks) from rfl, Bool.and_comm]
theorem right15 (num : Int) (name : ByteArray) (ks : List Tr) : rightB (.mk 15 name num ks) = ((decide ((methR name).1 ≥ 0) && num == 0) && kidsB ks (eee.extract 0 ((methR name).1 + 1).toNat)) := by
 rw [show rightB (.mk 15 name num ks) = ((opHas name && num == 0) && kidsB ks (eee.extract 0 ((opGet name).2.2 + 1).toNat)) from rfl]
 obtain ⟨_, h1, h2⟩ := meth_facts name
 cases ho : opHas name with
 | true => rw [h2 ho, ← h1, ho]
 | false => rw [← h1, ho]; rfl
theorem right11 (num : Int) (name : ByteArray) (ks : List Tr) : rightB (.mk 11 name num ks) = (if (decide (name = ⟨#[98, 108, 111, 99, 107, 99, 121, 99, 108, 105, 99]⟩)) = true then (num == 0 && kidsB ks ⟨#[101, 101]⟩) else (hasB [⟨#[98, 108, 111, 99, 107]⟩, ⟨#[99, 121, 99, 108, 105, 99]⟩, ⟨#[104, 97, 115, 104, 101, 100]⟩] name && num == 0) && kidsB ks ⟨#[101]⟩) := by
 rw [show rightB (.mk 11 name num ks) = (if (decide (name = bcB)) = true then (num == 0 && kidsB ks ee) else (num == 0 && ((decide (name = blB) || decide (name = cyB)) || decide (name = haB))) && kidsB ks e1) from rfl]
 by_cases hb : decide (name = bcB) = true
 · rw [if_pos hb, if_pos (show decide (name = ⟨#[98, 108, 111, 99, 107, 99, 121, 99, 108, 105, 99]⟩) = true from hb)]; rfl
 · rw [if_neg hb, if_neg (show ¬ decide (name = ⟨#[98, 108, 111, 99, 107, 99, 121, 99, 108, 105, 99]⟩) = true from hb)]
   simp only [hasB, List.any_cons, List.any_nil, Bool.or_false]
   show ((num == 0 && ((decide (name = ⟨#[98, 108, 111, 99, 107]⟩) || decide (name = ⟨#[99, 121, 99, 108, 105, 99]⟩)) || decide (name = ⟨#[104, 97, 115, 104, 101, 100]⟩))) && kidsB ks ⟨#[101]⟩) = _
   ac_rfl
end
section
def ab (d : Int) : Int := if d < 0 then -d else d
structure GR (lo hi st a d c : Int) : Prop where
 hc : 1 ≤ c
 hd0 : d ≠ 0
 h1 : c = 1 → d = 1
 ha : -1000000 ≤ a ∧ a ≤ 1000000
 hl : -1000000 ≤ a + d * (c - 1) ∧ a + d * (c - 1) ≤ 1000000
 hlo : lo = if d < 0 then a + d * (c - 1) else a
 hhi : hi = if d < 0 then a else a + d * (c - 1)
 hst : st = d
def Good (lo hi st : Int) : Prop := (lo = 1 ∧ hi = 0 ∧ st = 1) ∨ ∃ a d c, GR lo hi st a d c
theorem W_id {n : Int} (h1 : -9223372036854775808 ≤ n) (h2 : n ≤ 9223372036854775807) : W n = n := wrap_i64 h1 h2
variable {d : Int}
theorem step_facts {k : Int} (hk : 0 ≤ k) (hd : d ≠ 0) (hb : -2000000 ≤ d * k ∧ d * k ≤ 2000000) : (0 < d → k ≤ d * k) ∧ (d < 0 → k ≤ -(d * k)) ∧ (1 ≤ k → -2000000 ≤ d ∧ d ≤ 2000000) ∧ (d * k = 0 ↔ k = 0) := by
 have hp : 0 < d → k ≤ d * k := fun h => by
  have := Int.mul_le_mul_of_nonneg_right (show 1 ≤ d by omega) hk
  omega
 have hn : d < 0 → k ≤ -(d * k) := fun h => by
  have := Int.mul_le_mul_of_nonneg_right (show 1 ≤ -d by omega) hk
  rw [Int.neg_mul] at this
  omega
 refine ⟨hp, hn, fun h => ?_, fun h => ?_, fun h => by rw [h, Int.mul_zero]⟩
 · rcases Int.lt_or_lt_of_ne hd with h2 | h2
   · have := Int.mul_le_mul_of_nonneg_left h (show 0 ≤ -d by omega)
     simp only [Int.neg_mul, Int.mul_one] at this
     omega
   · have := Int.mul_le_mul_of_nonneg_left h (show 0 ≤ d by omega)
     omega
 · rcases Int.mul_eq_zero.1 h with h | h
   · exact absurd h hd
   · exact h
variable {lo hi st a c : Int}
theorem GR.facts (h : GR lo hi st a d c) : (0 < d → c - 1 ≤ d * (c - 1)) ∧ (d < 0 → c - 1 ≤ -(d * (c - 1))) ∧ (-2000000 ≤ d ∧ d ≤ 2000000) ∧ (d * (c - 1) = 0 ↔ c - 1 = 0) ∧ c ≤ 2000001 := by
 have hc := h.hc
 have ha := h.ha
 have hl := h.hl
 obtain ⟨g1, g2, g3, g4⟩ := step_facts (show 0 ≤ c - 1 by omega) h.hd0 (by omega)
 refine ⟨g1, g2, ?_, g4, ?_⟩
 · by_cases hc1 : c = 1
   · have := h.h1 hc1; omega
   · exact g3 (by omega)
 · rcases Int.lt_or_lt_of_ne h.hd0 with h2 | h2
   · have := g2 h2; omega
   · have := g1 h2; omega
theorem GR.diff (h : GR lo hi st a d c) : hi - lo = ab d * (c - 1) ∧ 0 ≤ ab d * (c - 1) ∧ ab d * (c - 1) ≤ 2000000 := by
 obtain ⟨g1, g2, _⟩ := h.facts
 have hl := h.hl
 have ha := h.ha
 have hc := h.hc
 rw [h.hhi, h.hlo]
 unfold ab
 by_cases hd : d < 0
 · rw [if_pos hd, if_pos hd, if_pos hd, Int.neg_mul]
   have := g2 hd
   omega
 · rw [if_neg hd, if_neg hd, if_neg hd]
   have := g1 (by have := h.hd0; omega)
   omega
theorem ab_pos (h : d ≠ 0) : 0 < ab d := by unfold ab; split <;> omega
theorem stepS_ab (h : -2000000 ≤ d ∧ d ≤ 2000000) (h0 : d ≠ 0) : stepS d = ab d := by
 unfold stepS ab U IntKind.wrap
 simp only [IntKind.signed, IntKind.bits, Bool.false_and, Bool.false_eq_true, if_false]
 split <;> omega
theorem GR.check (h : GR lo hi st a d c) : checkS lo hi st = 0 := by
 obtain ⟨g1, g2, g3, g4, g5⟩ := h.facts
 obtain ⟨e1, e2, e3⟩ := h.diff
 have hl := h.hl
 have ha := h.ha
 have hc := h.hc
 have hd0 := h.hd0
 have hlo := h.hlo
 have hhi := h.hhi
 have hw : limS lo hi = 0 := by
  unfold limS withinB
  rw [if_neg]
  simp only [Bool.or_eq_true, Bool.not_eq_true', Bool.and_eq_false_iff, decide_eq_false_iff_not]
  by_cases hd : d < 0
  · rw [if_pos hd] at hlo hhi; omega
  · rw [if_neg hd] at hlo hhi; omega
 unfold checkS
 by_cases hc1 : c = 1
 · have hd := h.h1 hc1
   rw [if_neg]
   · exact hw
   · have hst := h.hst
     have : lo = hi := by
      have : c - 1 = 0 := by omega
      rw [this] at e1
      omega
     rw [this, hst, hd]; simp
 · have hlt : lo < hi := by
    have hp : 0 < ab d * (c - 1) := Int.mul_pos (ab_pos hd0) (by omega)
    omega
   have hmod : ((U (W (hi - lo))).tmod (stepS st) != 0) = false := by
    rw [h.hst, stepS_ab g3 hd0, W_id (by omega) (by omega), e1, show U (ab d * (c - 1)) = ab d * (c - 1) from by
     unfold U IntKind.wrap
     simp only [IntKind.signed, IntKind.bits, Bool.false_and, Bool.false_eq_true, if_false]
     omega, Int.mul_tmod_right]
    rfl
   split
   · rw [if_neg (by rw [h.hst]; simp; omega), hmod, if_neg (by decide)]
     exact hw
   · exact hw
theorem GR.series (h : GR lo hi st a d c) : seriesS lo hi st = (a, d, c) := by
 obtain ⟨g1, g2, g3, g4, g5⟩ := h.facts
 obtain ⟨e1, e2, e3⟩ := h.diff
 have hd0 := h.hd0
 have hlo := h.hlo
 have hhi := h.hhi
 have hc := h.hc
 have hst := h.hst
 have hab0 := ab_pos hd0
 have e4 : W (hi - lo) = ab d * (c - 1) := by rw [W_id (by omega) (by omega), e1]
 have e6 : W (W (c - 1) + 1) = c := by
  rw [W_id (n := c - 1) (by omega) (by omega), show c - 1 + 1 = c from by omega, W_id (by omega) (by omega)]
 unfold seriesS
 rw [if_neg (by omega), hst, e4]
 by_cases hd : d < 0
 · rw [if_pos hd] at hlo hhi
   have hab : ab d = -d := by unfold ab; rw [if_pos hd]
   have e5 : W (0 - d) = ab d := by rw [W_id (by omega) (by omega), hab]; omega
   rw [if_pos hd, e5, Int.mul_tdiv_cancel_left _ (by omega), e6, hhi]
 · rw [if_neg hd] at hlo hhi
   have hab : ab d = d := by unfold ab; rw [if_neg hd]
   rw [if_neg hd, hab, Int.mul_tdiv_cancel_left _ hd0, e6, hlo]
end
section
theorem GR.wf {lo hi st a d c : Int} (h : GR lo hi st a d c) : (-1000000 ≤ lo ∧ lo ≤ 1000000) ∧ (-1000000 ≤ hi ∧ hi ≤ 1000000) ∧ (-2000000 ≤ st ∧ st ≤ 2000000) ∧ st ≠ 0 ∧ lo ≤ hi ∧ (lo = hi → st = 1) ∧ hi % ab st = lo % ab st ∧ 0 < ab st ∧ ab st ≤ 2000000 := by
 obtain ⟨g1, g2, g3, g4, g5⟩ := h.facts
 obtain ⟨e1, e2, e3⟩ := h.diff
 have hl := h.hl
 have ha := h.ha
 have hlo := h.hlo
 have hhi := h.hhi
 have hst := h.hst
 have hd0 := h.hd0
 have hab := ab_pos hd0
 refine ⟨?_, ?_, by omega, by omega, by omega, fun he => ?_, ?_, by rw [hst]; exact hab, ?_⟩
 · split at hlo <;> omega
 · split at hhi <;> omega
 · rw [hst]
   apply h.h1
   have : ab d * (c - 1) = 0 := by omega
   rcases Int.mul_eq_zero.1 this with h1 | h1 <;> omega
 · rw [hst, show hi = lo + ab d * (c - 1) from by omega, Int.add_mul_emod_self_left]
 · rw [hst]; unfold ab; split <;> omega
end
section
theorem GR.size {lo hi st a d c : Int} (h : GR lo hi st a d c) : sizeS lo hi st = c := by
 rw [sizeS, h.check, if_neg (by decide), h.series]
theorem Good.size {lo hi st : Int} (h : Good lo hi st) : 0 ≤ sizeS lo hi st ∧ sizeS lo hi st ≤ 2000001 ∧ (sizeS lo hi st = 0 → lo = 1 ∧ hi = 0 ∧ st = 1) := by
 rcases h with ⟨rfl, rfl, rfl⟩ | ⟨a, d, c, hg⟩
 · decide
 · obtain ⟨_, _, _, _, g5⟩ := hg.facts
   have := hg.hc
   rw [hg.size]
   omega
end
section
def woL (l : List (ByteArray × Tr)) (nm : ByteArray) : List (ByteArray × Tr) := l.filter fun c => !decide (c.1 = nm)
end
section
def Agree (K : KL) (l : List (ByteArray × Tr)) : Prop := ∀ nm, findK nm K = findK nm (kl l)
theorem findK_filter (x nm : ByteArray) : ∀ K : KL, findK nm (K.filter fun c => !decide (c.1 = x)) = if x = nm then none else findK nm K
 | [] => by simp [findK]
 | c :: r => by
  rw [List.filter_cons]
  by_cases hc : c.1 = x
  · rw [if_neg (by simp [hc]), findK_filter x nm r]
    by_cases hx : x = nm
    · rw [if_pos hx, if_pos hx]
    · rw [if_neg hx, if_neg hx, findK, if_neg (by rw [hc]; exact hx)]
  · rw [if_pos (by simp [hc]), findK, findK, findK_filter x nm r]
    by_cases hx : x = nm
    · rw [if_pos hx, if_pos hx, if_neg (by rw [← hx]; exact hc)]
    · rw [if_neg hx, if_neg hx]
theorem kl_wo (l : List (ByteArray × Tr)) (x : ByteArray) : kl (woL l x) = (kl l).filter fun c => !decide (c.1 = x) := by
 unfold kl woL
 rw [List.filter_reverse, List.filter_map]
 rfl
theorem Agree.hide {K : KL} {l : List (ByteArray × Tr)} (h : Agree K l) (x : ByteArray) : Agree (hideK x K) (woL l x) := fun nm => by
 rw [kl_wo, findK_filter, ← h nm]
 rfl
end
section
def x0 (xs : List (Tr × Bool)) (i : Nat) : Tr × Bool := xs.getD i (z0, false)
end
section
def KOkT (l : KL) : Prop := ∀ x ∈ l, ∀ t, x.2 = some t → t.Ok
theorem KOkT.hide {l : KL} (h : KOkT l) (nm : ByteArray) : KOkT (hideK nm l) := fun x hx t ht => by
 rcases List.mem_cons.1 hx with rfl | hx
 · cases ht
 · exact h x hx t ht
theorem KOkT.hideV {l : KL} (h : KOkT l) (k : Tr) : KOkT (hideV k l) := by
 unfold Go.Proofs.Ytklkbfpjimeaoaa.hideV
 split
 · exact h.hide _
 · exact h
theorem KOkT.bind : ∀ (ks : List Tr) {l : KL}, KOkT l → KOkT (bindK ks l)
 | [], l, h => h
 | k :: r, l, h => by
  show KOkT (bindK r (hideK k.nm l))
  exact KOkT.bind r (h.hide _)
end
section
def isVarP (op num : Int) : Bool := op == 50 && andI num 8 != 0
def intTy : ByteArray := ⟨#[105, 110, 116]⟩
def boolTy : ByteArray := ⟨#[98, 111, 111, 108]⟩
def wantB (op : Int) : ByteArray := if (op == 2) = true then boolTy else intTy
def lastV (l : KL) (ks : List Tr) : Option Tr := match ks.getLast? with
 | some k => k.value l
 | none => none
def unfit (ks : List Tr) (v : Tr) : Bool := match ks with
 | [] => true
 | t :: _ => t.op != 30 || !decide (t.nm = wantB v.op)
def staticV (l : KL) : Tr → Option Tr
 | .mk _ _ num ks =>
  if (andI num 2 == 0) = true then none
  else match lastV l ks with
   | none => none
   | some v => if (andI num 1 == 0) = true then some v else if unfit ks v = true then none else some v
def part (vs : List (Option Tr)) : Int := 2 - nuV (v0 vs 0)
mutual
/-- A statement without params, or an error. -/
def Tr.fold : Tr → KL → Tr × Int
 | .mk op nm num ks, l =>
  if (op == 52 && isV (v0 (Tr.values l ks) 0) 2) = true then
   (if decide (part (Tr.values l ks) < ks.length) = true then
    (if (((Tr.kblocks ks l).getD (part (Tr.values l ks)).toNat ([], 0)).2 != 0) = true then (z0, ((Tr.kblocks ks l).getD (part (Tr.values l ks)).toNat ([], 0)).2) else (.mk 66 ⟨#[]⟩ 0 ((Tr.kblocks ks l).getD (part (Tr.values l ks)).toNat ([], 0)).1, 0))
    else (.mk 66 ⟨#[]⟩ 0 [], 0))
  else if (op == 66) = true then (.mk 66 ⟨#[]⟩ 0 (Tr.block ks l).1, (Tr.block ks l).2)
  else if ((Tr.bodies ks (if loopsB op num ks.length = true then bindK (ks.take num.toNat) l else l) (Tr.puts op num ks l 0 l ks)).2 != 0) = true then (z0, (Tr.bodies ks (if loopsB op num ks.length = true then bindK (ks.take num.toNat) l else l) (Tr.puts op num ks l 0 l ks)).2)
  else (.mk op nm num (Tr.bodies ks (if loopsB op num ks.length = true then bindK (ks.take num.toNat) l else l) (Tr.puts op num ks l 0 l ks)).1, 0)
def Tr.kblock : Tr → KL → List Tr × Int
 | .mk _ _ _ ks, l => Tr.block ks l
def Tr.kblocks : List Tr → KL → List (List Tr × Int)
 | [], _ => []
 | k :: r, l => k.kblock l :: Tr.kblocks r l
/-- The Kids of a statement, those that are blocks folded. -/
def Tr.bodies : List Tr → KL → List Tr → List Tr × Int
 | [], _, _ => ([], 0)
 | k :: r, l, ps =>
  if (k.op != 66) = true then (ps.headD z0 :: (Tr.bodies r l ps.tail).1, (Tr.bodies r l ps.tail).2)
  else if ((k.kblock l).2 != 0) = true then ([], (k.kblock l).2)
  else (.mk 66 ⟨#[]⟩ 0 (k.kblock l).1 :: (Tr.bodies r l ps.tail).1, (Tr.bodies r l ps.tail).2)
def Tr.block : List Tr → KL → List Tr × Int
 | [], _ => ([], 0)
 | t :: r, l =>
  if isVarP t.op t.nu = true then (match staticV l t with
   | none => ([], 140)
   | some v => Tr.block r ((t.nm, some v) :: l))
  else if ((t.fold l).2 != 0) = true then ([], (t.fold l).2)
  else if ((Tr.block r (hideV t l)).2 != 0) = true then ([], (Tr.block r (hideV t l)).2)
  else ((t.fold l).1 :: (Tr.block r (hideV t l)).1, 0)
end
variable {l : KL}
theorem KOk.okT (h : KOk l) : KOkT l := fun x hx t ht => (h x hx t ht).okT
theorem KOk.cons (h : KOk l) (nm : ByteArray) {v : Tr} (hv : ValOk v) : KOk ((nm, some v) :: l) := fun x hx t ht => by
 rcases List.mem_cons.1 hx with rfl | hx
 · injection ht with ht; subst ht; exact hv
 · exact h x hx t ht
theorem KOk.hide (h : KOk l) (nm : ByteArray) : KOk (hideK nm l) := fun x hx t ht => by
 rcases List.mem_cons.1 hx with rfl | hx
 · cases ht
 · exact h x hx t ht
theorem KOk.hideV (h : KOk l) (k : Tr) : KOk (hideV k l) := by
 unfold Go.Proofs.Ytklkbfpjimeaoaa.hideV
 split
 · exact h.hide _
 · exact h
theorem KOk.bind : ∀ (ks : List Tr) {l : KL}, KOk l → KOk (bindK ks l)
 | [], l, h => h
 | k :: r, l, h => by
  show KOk (bindK r (hideK k.nm l))
  exact KOk.bind r (h.hide _)
end
section
def BI (x y : List Tr × Int) (pre : List Tr) : Prop := x.2 = y.2 ∧ (x.2 = 0 → x.1 = pre ++ y.1)
theorem BI.keep {x : List Tr × Int} {k p : Tr} {r ps : List Tr} {l : KL} {pre : List Tr} (h : BI x (Tr.bodies (k :: r) l (p :: ps)) pre) (hk : (k.op != 66) = true) : BI x (Tr.bodies r l ps) (pre ++ [p]) := by
 rw [Tr.bodies, if_pos hk] at h
 exact ⟨h.1, fun h0 => by rw [h.2 h0, List.append_assoc]; rfl⟩
theorem BI.block {x : List Tr × Int} {k p : Tr} {r ps : List Tr} {l : KL} {pre : List Tr} (h : BI x (Tr.bodies (k :: r) l (p :: ps)) pre) (hk : (k.op != 66) = false) (he : ((k.kblock l).2 != 0) = false) : BI x (Tr.bodies r l ps) (pre ++ [.mk 66 ⟨#[]⟩ 0 (k.kblock l).1]) := by
 rw [Tr.bodies, if_neg (by rw [hk]; decide), if_neg (by rw [he]; decide)] at h
 exact ⟨h.1, fun h0 => by rw [h.2 h0, List.append_assoc]; rfl⟩
variable {ks : List Tr}
theorem kidsB_at {s : ByteArray} (h : kidsB ks s = true) {i : Nat} {k : Tr} (hk : ks[i]? = some k) : kindOk ((s[i]!).toNat : Nat) k.op = true := by
 unfold kidsB at h
 rw [Bool.and_eq_true, List.all_eq_true] at h
 exact h.2 (k, i) (List.mem_zipIdx_iff_getElem?.2 hk)
theorem stmt_kids {nm : ByteArray} {num : Int} (h : (Tr.mk 66 nm num ks).shaped = true) : ∀ k ∈ ks, isStmtB k.op = true := by
 have h1 := (Tr.shaped_mk h).1
 rw [right66, Bool.and_eq_true] at h1
 have h2 := h1.1
 unfold everyB at h2
 intro k hk
 simp only [Bool.not_eq_true', List.any_eq_false] at h2
 simpa using h2 k hk
def SFit (t : Tr) : Prop := t.Ok ∧ t.shaped = true ∧ isStmtB t.op = true ∧ t.Lens
theorem SFit.kid {nm : ByteArray} {num : Int} (hok : (Tr.mk 66 nm num ks).Ok) (hsh : (Tr.mk 66 nm num ks).shaped = true) (hl : (Tr.mk 66 nm num ks).Lens) : ∀ k ∈ ks, SFit k := fun k hk =>
 ⟨Tr.kids_ok hok k hk, (Tr.shaped_mk hsh).2 k hk, stmt_kids hsh k hk, hl.mk'.2 k hk⟩
end
section
variable {K : KL}
theorem value_agree {K' : KL} (h : ∀ nm, findK nm K = findK nm K') : ∀ n (t : Tr), t.size ≤ n → t.value K = t.value K' ∧ t.span K = t.span K' := by
 intro n
 induction n with
 | zero => intro t h; exact absurd t.size_pos (by omega)
 | succ n ih =>
  intro t hsz
  obtain ⟨op, nm, num, ks⟩ := t
  have hI : ∀ k ∈ ks, k.value K = k.value K' ∧ k.span K = k.span K' := fun k hk => ih k (by have := Tr.size_mem hk; rw [Tr.size] at hsz; omega)
  have hvs : Tr.values K ks = Tr.values K' ks := by
   rw [values_get, values_get]
   exact List.map_congr_left fun k hk => (hI k hk).1
  have hss : Tr.spans K ks = Tr.spans K' ks := by
   rw [spans_get, spans_get]
   exact List.map_congr_left fun k hk => (hI k hk).2
  rw [Tr.value, Tr.value, Tr.span, Tr.span, hvs, hss]
  refine ⟨?_, rfl⟩
  unfold valN
  rw [h nm]
theorem Agree.value {l : List (ByteArray × Tr)} (h : Agree K l) (t : Tr) : t.value (kl l) = t.value K := ((value_agree h t.size t (Nat.le_refl _)).1).symm
theorem Agree.cons {l : List (ByteArray × Tr)} (h : Agree K l) (nm : ByteArray) (v : Tr) : Agree ((nm, some v) :: K) (l ++ [(nm, v)]) := fun x => by
 rw [kl_snoc, findK, findK, h x]
theorem Agree.hideV {l : List (ByteArray × Tr)} (h : Agree K l) (t : Tr) : Agree (hideV t K) (if (t.op == 50) = true then woL l t.nm else l) := by
 unfold Go.Proofs.Ytklkbfpjimeaoaa.hideV
 cases t.op == 50
 · exact h
 · exact h.hide t.nm
def CV (n : Nat) (l : List (ByteArray × Tr)) : Prop := l.length ≤ n ∧ ∀ c ∈ l, ValOk c.2
theorem CV.mono {n m : Nat} {l : List (ByteArray × Tr)} (h : CV n l) (hm : n ≤ m) : CV m l := ⟨Nat.le_trans h.1 hm, h.2⟩
end
end Go.Proofs.Ytklkbfpjimeaoaa
