import Derived.Test.YtklkbfpjimeaoaaGreatM22
/- Contracts of functions. Conditions: none. -/
set_option linter.unusedSimpArgs false
set_option linter.unusedVariables false
set_option maxRecDepth 20000
namespace Go.Proofs.YtklkbfpjimeaoaaGreat
open Go Go.Proofs.YtklkbfpjimeaoaaGreat.E
theorem shGet10 : shGet 10 = some ⟨none, false, 229, [.ptr (.sl ([⟨#[101]⟩, ⟨#[101, 101]⟩].map .str))], (formsB [⟨#[101]⟩, ⟨#[101, 101]⟩])⟩ := rfl
theorem shGet12 : shGet 12 = some ⟨none, false, 229, [.ptr (.sl ([⟨#[101, 101]⟩, ⟨#[101, 101, 101]⟩].map .str))], (formsB [⟨#[101, 101]⟩, ⟨#[101, 101, 101]⟩])⟩ := rfl
theorem shGet16 : shGet 16 = some ⟨none, false, 229, [.ptr (.sl ([⟨#[]⟩].map .str))], (formsB [⟨#[]⟩])⟩ := rfl
theorem shGet17 : shGet 17 = some ⟨none, false, 229, [.ptr (.sl ([⟨#[]⟩].map .str))], (formsB [⟨#[]⟩])⟩ := rfl
theorem shGet18 : shGet 18 = some ⟨(some (⟨#[43]⟩, [⟨#[42]⟩, ⟨#[109, 105, 110]⟩, ⟨#[109, 97, 120]⟩])), false, 229, [.ptr (.sl ([⟨#[101]⟩].map .str))], (formsB [⟨#[101]⟩])⟩ := rfl
theorem shGet31 : shGet 31 = some ⟨none, false, 229, [.ptr (.sl ([⟨#[101]⟩].map .str))], (formsB [⟨#[101]⟩])⟩ := rfl
theorem shGet67 : shGet 67 = some ⟨(some (⟨#[43]⟩, [⟨#[42]⟩, ⟨#[109, 105, 110]⟩, ⟨#[109, 97, 120]⟩, ⟨#[38, 38]⟩, ⟨#[124, 124]⟩])), false, 229, [.ptr (.sl ([⟨#[110]⟩].map .str))], (formsB [⟨#[110]⟩])⟩ := rfl
theorem shGet51 : shGet 51 = some ⟨(some (⟨#[61]⟩, [⟨#[43, 61]⟩, ⟨#[45, 61]⟩, ⟨#[42, 61]⟩])), false, 155, [], rule155⟩ := rfl
theorem shGet52 : shGet 52 = some ⟨none, false, 229, [.ptr (.sl ([⟨#[101, 98]⟩, ⟨#[101, 98, 98]⟩].map .str))], (formsB [⟨#[101, 98]⟩, ⟨#[101, 98, 98]⟩])⟩ := rfl
theorem shGet53 : shGet 53 = some ⟨none, false, 229, [.ptr (.sl ([⟨#[101, 98]⟩].map .str))], (formsB [⟨#[101, 98]⟩])⟩ := rfl
theorem shGet60 : shGet 60 = some ⟨none, false, 229, [.ptr (.sl ([⟨#[101, 98]⟩].map .str))], (formsB [⟨#[101, 98]⟩])⟩ := rfl
theorem shGet54 : shGet 54 = some ⟨none, true, 157, [], rule157⟩ := rfl
theorem shGet56 : shGet 56 = some ⟨none, true, 157, [], rule157⟩ := rfl
theorem shGet55 : shGet 55 = some ⟨none, true, 157, [], rule157⟩ := rfl
theorem shGet57 : shGet 57 = some ⟨none, false, 229, [.ptr (.sl ([⟨#[98]⟩].map .str))], (formsB [⟨#[98]⟩])⟩ := rfl
theorem shGet59 : shGet 59 = some ⟨none, false, 229, [.ptr (.sl ([⟨#[98]⟩].map .str))], (formsB [⟨#[98]⟩])⟩ := rfl
theorem shGet58 : shGet 58 = some ⟨none, false, 158, [], rule158⟩ := rfl
theorem shGet61 : shGet 61 = some ⟨none, false, 229, [.ptr (.sl ([⟨#[]⟩, ⟨#[101]⟩].map .str))], (formsB [⟨#[]⟩, ⟨#[101]⟩])⟩ := rfl
theorem shGet62 : shGet 62 = some ⟨none, false, 229, [.ptr (.sl ([⟨#[101]⟩].map .str))], (formsB [⟨#[101]⟩])⟩ := rfl
theorem shGet65 : shGet 65 = some ⟨none, false, 229, [.ptr (.sl ([⟨#[101]⟩].map .str))], (formsB [⟨#[101]⟩])⟩ := rfl
theorem shGet63 : shGet 63 = some ⟨none, false, 161, [], rule161⟩ := rfl
theorem shGet64 : shGet 64 = some ⟨none, false, 162, [], (fun t => everyB (fun op => isExprB op || op == 3) t.kids)⟩ := rfl
theorem shGet66 : shGet 66 = some ⟨none, false, 164, [], (fun t => everyB isStmtB t.kids)⟩ := rfl
def nmOk : Option (ByteArray × List ByteArray) → ByteArray → Bool
 | none, nm => decide (nm = ⟨#[]⟩)
 | some x, nm => hasB (x.1 :: x.2) nm
variable {ks : List Tr}
theorem right_tab {op num : Int} {nm : ByteArray} {s : Sh} (h2 : (otherB (.mk op nm num ks)).2 = false) (hs : shGet op = some s) (h0 : (op == 0) = false) : rightB (.mk op nm num ks) = (((s.num || num == 0) && nmOk s.names nm) && s.ok (.mk op nm num ks)) := by
 obtain ⟨nms, nb, g, caps, ok⟩ := s
 rw [rightB, if_neg (by rw [h2]; decide), hs]
 dsimp only
 rw [h0, Bool.false_or]
 rcases nms with _ | x
 · dsimp only [nmOk]
   by_cases hn : nm = ⟨#[]⟩
   · cases nb <;> cases hz : (num == 0) <;> simp [bne, hn, hz]
   · cases nb <;> cases hz : (num == 0) <;> simp [bne, hn, hz]
 · dsimp only [nmOk]
   by_cases hh : hasB (x.1 :: x.2) nm = true
   · cases nb <;> cases hz : (num == 0) <;> simp [bne, hz, hh]
   · rw [Bool.not_eq_true] at hh
     cases nb <;> cases hz : (num == 0) <;> simp [bne, hz, hh]
theorem kids0 (ks : List Tr) : kidsB ks ⟨#[]⟩ = ((ks.length : Int) == 0) := by
 cases ks with
 | nil => rfl
 | cons k r =>
  unfold kidsB
  rw [decide_eq_false (by show ¬ (r.length + 1 = 0); omega), Bool.false_and]
  symm; rw [beq_eq_false_iff_ne, List.length_cons]; omega
theorem meth_facts (nm : ByteArray) : (-1 ≤ (methR nm).1 ∧ (methR nm).1 ≤ 2) ∧ opHas nm = decide ((methR nm).1 ≥ 0) ∧ (opHas nm = true → (opGet nm).2.2 = (methR nm).1) := by
 have hall : (opTab.all fun x => decide (0 ≤ x.2.2.2) && decide (x.2.2.2 ≤ 2)) = true := by decide
 unfold methR opGet opHas
 cases h : opTab.find? (fun x => decide (x.1 = nm)) with
 | none =>
  refine ⟨⟨by decide, by decide⟩, ?_, fun h2 => ?_⟩
  · rw [show (opTab.any fun x => decide (x.1 = nm)) = false from by
     rw [List.any_eq_false]; intro x hx; have := List.find?_eq_none.1 h x hx; simpa using this]
    rfl
  · exfalso
    rw [List.any_eq_true] at h2
    obtain ⟨x, hx, h3⟩ := h2
    exact List.find?_eq_none.1 h x hx h3
 | some x =>
  have hx := List.all_eq_true.1 hall x (List.mem_of_find?_eq_some h)
  rw [Bool.and_eq_true, decide_eq_true_eq, decide_eq_true_eq] at hx
  refine ⟨⟨by show -1 ≤ x.2.2.2; omega, hx.2⟩, ?_, fun _ => rfl⟩
  rw [show (opTab.any fun x => decide (x.1 = nm)) = true from List.any_eq_true.2 ⟨x, List.mem_of_find?_eq_some h, by simpa using List.find?_some h⟩]
  symm; exact decide_eq_true hx.1
theorem every_yes {p : Int → Bool} (h : ∀ i, i < ks.length → ∀ k, ks[i]? = some k → p k.op = true) : everyB p ks = true := by
 unfold everyB
 rw [Bool.not_eq_true', List.any_eq_false]
 intro k hk
 obtain ⟨i, hi⟩ := List.getElem?_of_mem hk
 rw [h i (lG hi) k hi]; decide
theorem every_no {p : Int → Bool} {k : Tr} (hk : k ∈ ks) (h : p k.op = false) : everyB p ks = false := by
 unfold everyB
 rw [show (ks.any fun k => !p k.op) = true from List.any_eq_true.2 ⟨k, hk, by rw [h]; rfl⟩]; rfl
theorem J12 {A : Prop} (h : A := by simp only [nmOk, formsB, List.any_cons, List.any_nil, Bool.or_false, Bool.true_or, Bool.false_or, Bool.true_and, bareB, Tr.nm_mk, Tr.nu_mk, Tr.kids_mk, kids0, rule154, rule155, rule158, rule161, loopRB, hasB]; try first | rfl | ac_rfl) : A := h
theorem right1 (num : Int) (name : ByteArray) (ks : List Tr) : rightB (.mk 1 name num ks) = (decide (name = ⟨#[]⟩) && (ks.length : Int) == 0) := by
 rw [right_tab (s := ⟨_, _, _, _, _⟩) rfl shGet1 rfl]
 exact J12
theorem right2 (num : Int) (name : ByteArray) (ks : List Tr) : rightB (.mk 2 name num ks) = ((decide (name = ⟨#[]⟩) && (num == 0 || num == 1)) && (ks.length : Int) == 0) := by
 rw [right_tab (s := ⟨_, _, _, _, _⟩) rfl shGet2 rfl]
 exact J12
theorem right5 (num : Int) (name : ByteArray) (ks : List Tr) : rightB (.mk 5 name num ks) = (((decide (name = ⟨#[45]⟩) || decide (name = ⟨#[33]⟩)) && num == 0) && kidsB ks ⟨#[101]⟩) := by
 rw [right_tab (s := ⟨_, _, _, _, _⟩) rfl shGet5 rfl]
 exact J12
theorem right6 (num : Int) (name : ByteArray) (ks : List Tr) : rightB (.mk 6 name num ks) = ((hasB [⟨#[43]⟩, ⟨#[45]⟩, ⟨#[42]⟩, ⟨#[47]⟩, ⟨#[37]⟩, ⟨#[61, 61]⟩, ⟨#[33, 61]⟩, ⟨#[60]⟩, ⟨#[60, 61]⟩, ⟨#[62]⟩, ⟨#[62, 61]⟩, ⟨#[38, 38]⟩, ⟨#[124, 124]⟩] name && num == 0) && kidsB ks ⟨#[101, 101]⟩) := by
 rw [right_tab (s := ⟨_, _, _, _, _⟩) rfl shGet6 rfl]
 exact J12
theorem right7 (num : Int) (name : ByteArray) (ks : List Tr) : rightB (.mk 7 name num ks) = (bareB (.mk 7 name num ks) && kidsB ks ⟨#[101, 101]⟩) := by
 rw [right_tab (s := ⟨_, _, _, _, _⟩) rfl shGet7 rfl]
 exact J12
theorem right8 (num : Int) (name : ByteArray) (ks : List Tr) : rightB (.mk 8 name num ks) = (bareB (.mk 8 name num ks) && kidsB ks ⟨#[101, 101]⟩) := by
 rw [right_tab (s := ⟨_, _, _, _, _⟩) rfl shGet8 rfl]
 exact J12
theorem right9 (num : Int) (name : ByteArray) (ks : List Tr) : rightB (.mk 9 name num ks) = (bareB (.mk 9 name num ks) && kidsB ks ⟨#[101, 101]⟩) := by
 rw [right_tab (s := ⟨_, _, _, _, _⟩) rfl shGet9 rfl]
 exact J12
theorem right10 (num : Int) (name : ByteArray) (ks : List Tr) : rightB (.mk 10 name num ks) = (bareB (.mk 10 name num ks) && (kidsB ks ⟨#[101]⟩ || kidsB ks ⟨#[101, 101]⟩)) := by
 rw [right_tab (s := ⟨_, _, _, _, _⟩) rfl shGet10 rfl]
 exact J12
theorem right12 (num : Int) (name : ByteArray) (ks : List Tr) : rightB (.mk 12 name num ks) = (bareB (.mk 12 name num ks) && (kidsB ks ⟨#[101, 101]⟩ || kidsB ks ⟨#[101, 101, 101]⟩)) := by
 rw [right_tab (s := ⟨_, _, _, _, _⟩) rfl shGet12 rfl]
 exact J12
theorem right14 (num : Int) (name : ByteArray) (ks : List Tr) : rightB (.mk 14 name num ks) = ((hasB [⟨#[115, 105, 122, 101]⟩, ⟨#[108, 111, 119]⟩, ⟨#[104, 105, 103, 104]⟩, ⟨#[115, 116, 114, 105, 100, 101]⟩, ⟨#[100, 111, 109, 97, 105, 110]⟩] name && num == 0) && kidsB ks ⟨#[101]⟩) := by
 rw [right_tab (s := ⟨_, _, _, _, _⟩) rfl shGet14 rfl]
 exact J12
theorem right16 (num : Int) (name : ByteArray) (ks : List Tr) : rightB (.mk 16 name num ks) = (bareB (.mk 16 name num ks) && (ks.length : Int) == 0) := by
 rw [right_tab (s := ⟨_, _, _, _, _⟩) rfl shGet16 rfl]
 exact J12
theorem right17 (num : Int) (name : ByteArray) (ks : List Tr) : rightB (.mk 17 name num ks) = (bareB (.mk 17 name num ks) && (ks.length : Int) == 0) := by
 rw [right_tab (s := ⟨_, _, _, _, _⟩) rfl shGet17 rfl]
 exact J12
theorem right18 (num : Int) (name : ByteArray) (ks : List Tr) : rightB (.mk 18 name num ks) = ((hasB [⟨#[43]⟩, ⟨#[42]⟩, ⟨#[109, 105, 110]⟩, ⟨#[109, 97, 120]⟩] name && num == 0) && kidsB ks ⟨#[101]⟩) := by
 rw [right_tab (s := ⟨_, _, _, _, _⟩) rfl shGet18 rfl]
 exact J12
theorem right19 (num : Int) (name : ByteArray) (ks : List Tr) : rightB (.mk 19 name num ks) = (bareB (.mk 19 name num ks) && kidsB ks ⟨#[101, 101, 101]⟩) := by
 rw [right_tab (s := ⟨_, _, _, _, _⟩) rfl shGet19 rfl]
 exact J12
theorem right31 (num : Int) (name : ByteArray) (ks : List Tr) : rightB (.mk 31 name num ks) = (bareB (.mk 31 name num ks) && kidsB ks ⟨#[101]⟩) := by
 rw [right_tab (s := ⟨_, _, _, _, _⟩) rfl shGet31 rfl]
 exact J12
theorem right51 (num : Int) (name : ByteArray) (ks : List Tr) : rightB (.mk 51 name num ks) = (((hasB [⟨#[61]⟩, ⟨#[43, 61]⟩, ⟨#[45, 61]⟩, ⟨#[42, 61]⟩] name && num == 0) && kidsB ks ⟨#[101, 101]⟩) && (opK 0 ks == 4 || opK 0 ks == 12)) := by
 rw [right_tab (s := ⟨_, _, _, _, _⟩) rfl shGet51 rfl]
 exact J12
theorem right52 (num : Int) (name : ByteArray) (ks : List Tr) : rightB (.mk 52 name num ks) = (bareB (.mk 52 name num ks) && (kidsB ks ⟨#[101, 98]⟩ || kidsB ks ⟨#[101, 98, 98]⟩)) := by
 rw [right_tab (s := ⟨_, _, _, _, _⟩) rfl shGet52 rfl]
 exact J12
theorem right53 (num : Int) (name : ByteArray) (ks : List Tr) : rightB (.mk 53 name num ks) = (bareB (.mk 53 name num ks) && kidsB ks ⟨#[101, 98]⟩) := by
 rw [right_tab (s := ⟨_, _, _, _, _⟩) rfl shGet53 rfl]
 exact J12
theorem right54 (num : Int) (name : ByteArray) (ks : List Tr) : rightB (.mk 54 name num ks) = (loopRB (.mk 54 name num ks)) := by
 rw [right_tab (s := ⟨_, _, _, _, _⟩) rfl shGet54 rfl]
 exact J12
theorem right55 (num : Int) (name : ByteArray) (ks : List Tr) : rightB (.mk 55 name num ks) = (loopRB (.mk 55 name num ks)) := by
 rw [right_tab (s := ⟨_, _, _, _, _⟩) rfl shGet55 rfl]
 exact J12
theorem right56 (num : Int) (name : ByteArray) (ks : List Tr) : rightB (.mk 56 name num ks) = (loopRB (.mk 56 name num ks)) := by
 rw [right_tab (s := ⟨_, _, _, _, _⟩) rfl shGet56 rfl]
 exact J12
theorem right57 (num : Int) (name : ByteArray) (ks : List Tr) : rightB (.mk 57 name num ks) = (bareB (.mk 57 name num ks) && kidsB ks ⟨#[98]⟩) := by
 rw [right_tab (s := ⟨_, _, _, _, _⟩) rfl shGet57 rfl]
 exact J12
theorem right58 (num : Int) (name : ByteArray) (ks : List Tr) : rightB (.mk 58 name num ks) = (everyB (fun op => op == 66) ks && (bareB (.mk 58 name num ks) && decide ((ks.length : Int) > 0))) := by
 rw [right_tab (s := ⟨_, _, _, _, _⟩) rfl shGet58 rfl]
 exact J12
theorem right59 (num : Int) (name : ByteArray) (ks : List Tr) : rightB (.mk 59 name num ks) = (bareB (.mk 59 name num ks) && kidsB ks ⟨#[98]⟩) := by
 rw [right_tab (s := ⟨_, _, _, _, _⟩) rfl shGet59 rfl]
 exact J12
theorem right60 (num : Int) (name : ByteArray) (ks : List Tr) : rightB (.mk 60 name num ks) = (bareB (.mk 60 name num ks) && kidsB ks ⟨#[101, 98]⟩) := by
 rw [right_tab (s := ⟨_, _, _, _, _⟩) rfl shGet60 rfl]
 exact J12
theorem right61 (num : Int) (name : ByteArray) (ks : List Tr) : rightB (.mk 61 name num ks) = (bareB (.mk 61 name num ks) && ((ks.length : Int) == 0 || kidsB ks ⟨#[101]⟩)) := by
 rw [right_tab (s := ⟨_, _, _, _, _⟩) rfl shGet61 rfl]
 exact J12
theorem right62 (num : Int) (name : ByteArray) (ks : List Tr) : rightB (.mk 62 name num ks) = (bareB (.mk 62 name num ks) && kidsB ks ⟨#[101]⟩) := by
 rw [right_tab (s := ⟨_, _, _, _, _⟩) rfl shGet62 rfl]
 exact J12
theorem right63 (num : Int) (name : ByteArray) (ks : List Tr) : rightB (.mk 63 name num ks) = ((bareB (.mk 63 name num ks) && (ks.length : Int) == 1) && (opK 0 ks == 13 || opK 0 ks == 15)) := by
 rw [right_tab (s := ⟨_, _, _, _, _⟩) rfl shGet63 rfl]
 exact J12
theorem right64 (num : Int) (name : ByteArray) (ks : List Tr) : rightB (.mk 64 name num ks) = (everyB (fun op => isExprB op || op == 3) ks && bareB (.mk 64 name num ks)) := by
 rw [right_tab (s := ⟨_, _, _, _, _⟩) rfl shGet64 rfl]
 exact J12
theorem right65 (num : Int) (name : ByteArray) (ks : List Tr) : rightB (.mk 65 name num ks) = (bareB (.mk 65 name num ks) && kidsB ks ⟨#[101]⟩) := by
 rw [right_tab (s := ⟨_, _, _, _, _⟩) rfl shGet65 rfl]
 exact J12
theorem right66 (num : Int) (name : ByteArray) (ks : List Tr) : rightB (.mk 66 name num ks) = (everyB isStmtB ks && bareB (.mk 66 name num ks)) := by
 rw [right_tab (s := ⟨_, _, _, _, _⟩) rfl shGet66 rfl]
 exact J12
theorem right67 (num : Int) (name : ByteArray) (ks : List Tr) : rightB (.mk 67 name num ks) = ((hasB [⟨#[43]⟩, ⟨#[42]⟩, ⟨#[109, 105, 110]⟩, ⟨#[109, 97, 120]⟩, ⟨#[38, 38]⟩, ⟨#[124, 124]⟩] name && num == 0) && kidsB ks ⟨#[110]⟩) := by
 rw [right_tab (s := ⟨_, _, _, _, _⟩) rfl shGet67 rfl]
 exact J12
theorem right3 (num : Int) (name : ByteArray) (ks : List Tr) : rightB (.mk 3 name num ks) = textR (.mk 3 name num ks) := rfl
theorem right4 (num : Int) (name : ByteArray) (ks : List Tr) : rightB (.mk 4 name num ks) = ((nameB name && num == 0) && (ks.length : Int) == 0) := rfl
theorem right30 (num : Int) (name : ByteArray) (ks : List Tr) : rightB (.mk 30 name num ks) = typedB (.mk 30 name num ks) := rfl
theorem right50 (num : Int) (name : ByteArray) (ks : List Tr) : rightB (.mk 50 name num ks) = varB (.mk 50 name num ks) := rfl
theorem right13 (num : Int) (name : ByteArray) (ks : List Tr) : rightB (.mk 13 name num ks) = (everyB (fun op => isExprB op || op == 30) ks && (nameB name && num == 0)) := by
 rw [show rightB (.mk 13 name num ks) = ((nameB name && num == 0) && everyB (fun op => isExprB op || op == 30) ks) from rfl, Bool.and_comm]
theorem right15 (num : Int) (name : ByteArray) (ks : List Tr) : rightB (.mk 15 name num ks) = ((decide ((methR name).1 ≥ 0) && num == 0) && kidsB ks (eee.extract 0 ((methR name).1 + 1).toNat)) := by
 rw [show rightB (.mk 15 name num ks) = ((opHas name && num == 0) && kidsB ks (eee.extract 0 ((opGet name).2.2 + 1).toNat)) from rfl]
 obtain ⟨_, h1, h2⟩ := meth_facts name
 cases ho : opHas name with
 | true => rw [h2 ho, ← h1, ho]
 | false => rw [← h1, ho]; rfl
theorem right11 (num : Int) (name : ByteArray) (ks : List Tr) : rightB (.mk 11 name num ks) = (if (decide (name = ⟨#[98, 108, 111, 99, 107, 99, 121, 99, 108, 105, 99]⟩)) = true then (num == 0 && kidsB ks ⟨#[101, 101]⟩) else (hasB [⟨#[98, 108, 111, 99, 107]⟩, ⟨#[99, 121, 99, 108, 105, 99]⟩, ⟨#[104, 97, 115, 104, 101, 100]⟩] name && num == 0) && kidsB ks ⟨#[101]⟩) := by
 rw [show rightB (.mk 11 name num ks) = (if (decide (name = bcB)) = true then (num == 0 && kidsB ks ee) else (num == 0 && ((decide (name = blB) || decide (name = cyB)) || decide (name = haB))) && kidsB ks e1) from rfl]
 by_cases hb : decide (name = bcB) = true
 · rw [if_pos hb, if_pos (show decide (name = ⟨#[98, 108, 111, 99, 107, 99, 121, 99, 108, 105, 99]⟩) = true from hb)]; rfl
 · rw [if_neg hb, if_neg (show ¬ decide (name = ⟨#[98, 108, 111, 99, 107, 99, 121, 99, 108, 105, 99]⟩) = true from hb)]
   simp only [hasB, List.any_cons, List.any_nil, Bool.or_false]
   show ((num == 0 && ((decide (name = ⟨#[98, 108, 111, 99, 107]⟩) || decide (name = ⟨#[99, 121, 99, 108, 105, 99]⟩)) || decide (name = ⟨#[104, 97, 115, 104, 101, 100]⟩))) && kidsB ks ⟨#[101]⟩) = _
   ac_rfl
set_option maxHeartbeats 16000000 in
theorem c237 (t : Tr) (hok : t.Ok) (hE : isExprB t.op = true) : Pf Tryz.prog 237 [t.d] (.d (.bool (rightB t))) := by
 obtain ⟨op, name, num, ks⟩ := t
 rw [Tr.d_mk]
 try simp only [Tr.op_mk, Tr.nm_mk, Tr.nu_mk, Tr.kids_mk]
 replace hE : isExprB op = true := hE
 have h4 : ks.length ≤ 140737488355328 := Tr.kids_len hok
 refine pf_body (rvs := [.tmp 2]) [(0, .d (.agg [.int .i64 op, .str name, .int .i64 num, .sl (ks.map Tr.d)]))] Tryz.func237 Tryz.ntmps237 Tryz.results237 (fun S0 O0 w0 m0 hm0 => ?_)
 refine Z186 ?_;refine Z137 ?_;refine Z119 ?_;refine Z136 ?_
 refine zgC ?_ ?_ <;> intro hb0
 ·
  refine Z5 ?_;refine Z150 ?_;refine Z53 ?_;refine Z166 ?_
  refine sg rfl (fun hg => sP 15 rfl hg (qL u22)) ?_
  refine sg rfl (fun hg => sP 16 rfl hg (q_len u22)) ?_
  refine sg rfl (fun hg => sP 17 rfl hg q_eql) ?_
  refine Z145 ?_
  obtain rfl := eq_of_beq hb0
  refine Z4 ?_
  exact Y0
 refine Z159 ?_
 refine zgC ?_ ?_ <;> intro hb1
 ·
  refine Z5 ?_;refine Z150 ?_;refine Z53 ?_;refine Z147 ?_;refine Z111 ?_;refine Z115 ?_
  refine sg rfl (fun hg => sP 28 rfl hg qM) ?_
  refine Z14 ?_
  refine sg rfl (fun hg => sP 30 rfl hg (qL u3)) ?_
  refine sg rfl (fun hg => sP 31 rfl hg q_eql) ?_
  refine sg rfl (fun hg => sP 29 rfl hg q_or) ?_
  refine Z149 ?_;refine Z19 ?_
  refine sg rfl (fun hg => sP 36 rfl hg (qL u22)) ?_
  refine sg rfl (fun hg => sP 37 rfl hg (q_len u22)) ?_
  refine sg rfl (fun hg => sP 38 rfl hg q_eql) ?_
  refine Z145 ?_
  obtain rfl := eq_of_beq hb1
  refine Z4 ?_
  exact Y0
 refine Z159 ?_
 refine zgC ?_ ?_ <;> intro hb2
 ·
  refine Z5 ?_;refine Z150 ?_
  refine gL (xs := [.tmp 44]) rfl (c174 name) ?_
  refine Z147 ?_
  refine sg rfl (fun hg => sP 47 rfl hg (qL u3)) ?_
  refine sg rfl (fun hg => sP 48 rfl hg q_eql) ?_
  refine Z149 ?_;refine Z19 ?_
  refine sg rfl (fun hg => sP 52 rfl hg (qL u22)) ?_
  refine sg rfl (fun hg => sP 53 rfl hg (q_len u22)) ?_
  refine sg rfl (fun hg => sP 54 rfl hg q_eql) ?_
  refine Z145 ?_
  obtain rfl := eq_of_beq hb2
  refine Z4 ?_
  exact Y0
 refine Z159 ?_
 refine zgC ?_ ?_ <;> intro hb3
 ·
  refine Z38 ?_;refine Z74 ?_;refine Z17 ?_;refine Z150 ?_;refine Z53 ?_;refine Z2 ?_;refine Z51 ?_
  refine sg rfl (fun hg => sP 63 rfl hg (qL u9)) ?_
  refine sg rfl (fun hg => sP 64 rfl hg q_streq) ?_
  refine Z22 ?_;refine Z147 ?_
  refine sg rfl (fun hg => sP 68 rfl hg (qL u3)) ?_
  refine sg rfl (fun hg => sP 69 rfl hg q_eql) ?_
  refine Z149 ?_;refine Z13 ?_
  refine g_callg (xs := [.tmp 73, .const (.string ⟨#[101]⟩)]) rfl (fun hg => (Tr.d_mk op name num ks ▸ c239 (.mk op name num ks) ⟨#[101]⟩ hok)) ?_
  refine Z145 ?_
  obtain rfl := eq_of_beq hb3
  refine Z4 ?_
  exact Y0
 refine Z38 ?_;refine Z74 ?_;refine Z187 ?_
 refine zgC ?_ ?_ <;> intro hb4
 ·
  refine Z5 ?_
  refine sv rfl (y_buildSlice (xs := [.const (.string ⟨#[43]⟩), .const (.string ⟨#[45]⟩), .const (.string ⟨#[42]⟩), .const (.string ⟨#[47]⟩), .const (.string ⟨#[37]⟩), .const (.string ⟨#[61, 61]⟩), .const (.string ⟨#[33, 61]⟩), .const (.string ⟨#[60]⟩), .const (.string ⟨#[60, 61]⟩), .const (.string ⟨#[62]⟩), .const (.string ⟨#[62, 61]⟩), .const (.string ⟨#[38, 38]⟩), .const (.string ⟨#[124, 124]⟩)]) u63 inf9) ?_
  refine Z150 ?_
  refine gL (xs := [.tmp 78, .tmp 80]) rfl (c176 [⟨#[43]⟩, ⟨#[45]⟩, ⟨#[42]⟩, ⟨#[47]⟩, ⟨#[37]⟩, ⟨#[61, 61]⟩, ⟨#[33, 61]⟩, ⟨#[60]⟩, ⟨#[60, 61]⟩, ⟨#[62]⟩, ⟨#[62, 61]⟩, ⟨#[38, 38]⟩, ⟨#[124, 124]⟩] name (by decide)) ?_
  refine Z147 ?_
  refine sg rfl (fun hg => sP 83 rfl hg (qL u3)) ?_
  refine sg rfl (fun hg => sP 84 rfl hg q_eql) ?_
  refine Z149 ?_;refine Z13 ?_
  refine g_callg (xs := [.tmp 88, .const (.string ⟨#[101, 101]⟩)]) rfl (fun hg => (Tr.d_mk op name num ks ▸ c239 (.mk op name num ks) ⟨#[101, 101]⟩ hok)) ?_
  refine Z145 ?_
  obtain rfl := eq_of_beq hb4
  refine Z4 ?_
  exact Y0
 refine Z39 ?_;refine Z136 ?_
 refine zgC ?_ ?_ <;> intro hb5
 ·
  refine Z77 ?_
  refine zgC ?_ ?_ <;> intro hb6
  ·
   refine Z156 ?_;refine Z80 ?_;refine Z167 ?_;refine Z73 ?_;refine Z145 ?_
   obtain rfl := eq_of_beq hb6
   refine Z4 ?_
   exact Y0
  exact absurd (hb5.symm.trans hb6) (by decide)
 refine Z159 ?_
 refine zgC ?_ ?_ <;> intro hb7
 ·
  refine Z77 ?_
  refine zgC ?_ ?_ <;> intro hb8
  ·
   refine Z156 ?_;refine Z80 ?_;refine Z167 ?_;refine Z73 ?_;refine Z145 ?_
   obtain rfl := eq_of_beq hb8
   refine Z4 ?_
   exact Y0
  exact absurd (hb7.symm.trans hb8) (by decide)
 refine Z187 ?_
 refine zgC ?_ ?_ <;> intro hb9
 ·
  refine Z156 ?_;refine Z80 ?_;refine Z167 ?_;refine Z73 ?_;refine Z145 ?_
  obtain rfl := eq_of_beq hb9
  refine Z4 ?_
  exact Y0
 refine Z159 ?_
 refine zgC ?_ ?_ <;> intro hb10
 ·
  refine Z156 ?_
  refine gL (xs := [.tmp 103]) rfl ((Tr.d_mk op name num ks ▸ c177 (.mk op name num ks))) ?_
  refine Z167 ?_
  refine g_callg (xs := [.tmp 106, .const (.string ⟨#[101]⟩)]) rfl (fun hg => (Tr.d_mk op name num ks ▸ c239 (.mk op name num ks) ⟨#[101]⟩ hok)) ?_
  refine sg rfl (fun hg => sP 107 rfl hg qM) ?_
  refine Z13 ?_
  refine g_callg (xs := [.tmp 109, .const (.string ⟨#[101, 101]⟩)]) rfl (fun hg => (Tr.d_mk op name num ks ▸ c239 (.mk op name num ks) ⟨#[101, 101]⟩ hok)) ?_
  refine sg rfl (fun hg => sP 108 rfl hg q_or) ?_
  refine Z145 ?_
  obtain rfl := eq_of_beq hb10
  refine Z4 ?_
  exact Y0
 refine Z159 ?_
 refine zgC ?_ ?_ <;> intro hb11
 ·
  refine zgS (zgS ?_)
  refine Z74 ?_;refine Z17 ?_;refine Z150 ?_;refine Z53 ?_;refine Z9 ?_
  refine zgC ?_ ?_ <;> intro hb12
  ·
   refine Z195 ?_;refine Z15 ?_;refine Z167 ?_
   refine g_callg (xs := [.tmp 122, .const (.string ⟨#[101, 101]⟩)]) rfl (fun hg => (Tr.d_mk op name num ks ▸ c239 (.mk op name num ks) ⟨#[101, 101]⟩ hok)) ?_
   refine Z11 ?_;refine Z1 ?_
   refine gN (tN (gT (tR (bR (tR ?_)))))
   obtain rfl := eq_of_beq hb11
   refine Z4 ?_
   exact ⟨by rw [right11, if_pos hb12]; rfl, rfl⟩
  refine Z120 ?_
  refine sv rfl (y_buildSlice (xs := [.const (.string ⟨#[98, 108, 111, 99, 107]⟩), .const (.string ⟨#[99, 121, 99, 108, 105, 99]⟩), .const (.string ⟨#[104, 97, 115, 104, 101, 100]⟩)]) u63 inf9) ?_
  refine Z150 ?_
  refine gL (xs := [.tmp 125, .tmp 127]) rfl (c176 [⟨#[98, 108, 111, 99, 107]⟩, ⟨#[99, 121, 99, 108, 105, 99]⟩, ⟨#[104, 97, 115, 104, 101, 100]⟩] name (by decide)) ?_
  refine Z147 ?_
  refine sg rfl (fun hg => sP 130 rfl hg (qL u3)) ?_
  refine sg rfl (fun hg => sP 131 rfl hg q_eql) ?_
  refine Z149 ?_;refine Z13 ?_
  refine g_callg (xs := [.tmp 135, .const (.string ⟨#[101]⟩)]) rfl (fun hg => (Tr.d_mk op name num ks ▸ c239 (.mk op name num ks) ⟨#[101]⟩ hok)) ?_
  refine Z145 ?_
  obtain rfl := eq_of_beq hb11
  refine Z4 ?_
  exact ⟨by rw [right11, if_neg (by rw [hb12]; decide)]; rfl, rfl⟩
 refine Z38 ?_;refine Z74 ?_;refine Z187 ?_
 refine zgC ?_ ?_ <;> intro hb13
 ·
  refine Z156 ?_
  refine gL (xs := [.tmp 140]) rfl ((Tr.d_mk op name num ks ▸ c177 (.mk op name num ks))) ?_
  refine Z167 ?_
  refine g_callg (xs := [.tmp 143, .const (.string ⟨#[101, 101]⟩)]) rfl (fun hg => (Tr.d_mk op name num ks ▸ c239 (.mk op name num ks) ⟨#[101, 101]⟩ hok)) ?_
  refine sg rfl (fun hg => sP 144 rfl hg qM) ?_
  refine Z13 ?_
  refine g_callg (xs := [.tmp 146, .const (.string ⟨#[101, 101, 101]⟩)]) rfl (fun hg => (Tr.d_mk op name num ks ▸ c239 (.mk op name num ks) ⟨#[101, 101, 101]⟩ hok)) ?_
  refine sg rfl (fun hg => sP 145 rfl hg q_or) ?_
  refine Z145 ?_
  obtain rfl := eq_of_beq hb13
  refine Z4 ?_
  exact Y0
 refine Z159 ?_
 refine zgC ?_ ?_ <;> intro hb14
 ·
  refine Z39 ?_;refine Z198 ?_
  refine g_loop (α := Nat) (fun z => ⟨[(3, .d (.int .i64 (z : Nat))), (1, .d (.ptr (.agg [.int .i64 op, .str name, .int .i64 num, .sl (ks.map Tr.d)])))], []⟩) (fun z => ks.length - z) (fun z => z ≤ ks.length ∧ ∀ i, i < z → ∀ k, ks[i]? = some k → (fun o : Int => isExprB o || o == 30) k.op = true) 0 ⟨Nat.zero_le _, by simp⟩ (fun z hz Q' hn0 he0 hr0 => ?_) (le_of)
  obtain ⟨hz1, hz2⟩ := hz
  refine Z196 ?_;refine Z165 ?_;refine Z192 ?_
  refine zgC ?_ ?_ <;> intro hb15
  ·
   have hlt : z < ks.length := by simpa using hb15
   obtain ⟨a, hka⟩ : ∃ k, ks[z]? = some k := ⟨_, gE (by omega)⟩
   have hmem := mG hka
   obtain ⟨aop, anm, anu, aks, hke⟩ : ∃ op nm nu ks', a = .mk op nm nu ks' := by cases a; exact ⟨_, _, _, _, rfl⟩
   subst hke
   have hxa := Tr.ds_get hka
   rw [Tr.d_mk] at hxa
   refine Z24 ?_;refine Z146 ?_;refine Z2 ?_;refine Z58 ?_;refine Z137 ?_
   refine gL (xs := [.tmp 164]) rfl (c81 _) ?_
   refine Z54 ?_;refine Z166 ?_
   refine sg rfl (fun hg => sP 168 rfl hg (qL u22)) ?_
   refine Z18 ?_
   refine sg rfl (fun hg => sP 170 rfl hg (sP 169 rfl hg (qI u22 sz27))) ?_
   refine sg rfl (fun hg => sP 171 rfl hg (qF u27 rfl sz3)) ?_
   refine sg rfl (fun hg => sP 172 rfl hg (qL u3)) ?_
   refine sg rfl (fun hg => sP 173 rfl hg q_neq) ?_
   refine Z11 ?_;refine Z9 ?_
   refine zgC ?_ ?_ <;> intro hb16
   ·
    refine Z38 ?_;refine Z74 ?_;refine Z17 ?_;refine Z130 ?_;refine Z85 ?_
    refine bR (tR (bR (tR ?_)))
    obtain rfl := eq_of_beq hb14
    refine Z4 ?_
    exact ⟨by rw [right13, every_no hmem (by show (fun o : Int => isExprB o || o == 30) aop = false; revert hb16; show (!isExprB aop && aop != 30) = true → (isExprB aop || aop == 30) = false; cases isExprB aop <;> cases h : (aop == 30) <;> simp [bne, h])]; rfl, rfl⟩
   refine Z103 ?_;refine Z74 ?_;refine Z17 ?_;refine Z179 ?_
   refine hn0 _ (z + 1) ⟨by omega, upto_step (p := fun _ (k : Tr) => (fun o : Int => isExprB o || o == 30) k.op) hz2 hka (by show (fun o : Int => isExprB o || o == 30) aop = true; revert hb16; show (!isExprB aop && aop != 30) = false → (isExprB aop || aop == 30) = true; cases isExprB aop <;> cases h : (aop == 30) <;> simp [bne, h])⟩ (by omega) le_of
  have hge : z = ks.length := by
   have : ¬ (z : Int) < ((ks.map Tr.d).length : Nat) := by simpa using hb15
   rw [List.length_map] at this
   omega
  refine Z164 ?_;refine Z150 ?_
  refine gL (xs := [.tmp 177]) rfl (c174 name) ?_
  refine Z147 ?_
  refine sg rfl (fun hg => sP 180 rfl hg (qL u3)) ?_
  refine sg rfl (fun hg => sP 181 rfl hg q_eql) ?_
  refine Z145 ?_
  obtain rfl := eq_of_beq hb14
  refine Z4 ?_
  exact ⟨by rw [right13, every_yes (fun i hi => hz2 i (by omega))]; rfl, rfl⟩
 refine Z159 ?_
 refine zgC ?_ ?_ <;> intro hb17
 ·
  refine Z5 ?_
  refine sv rfl (y_buildSlice (xs := [.const (.string ⟨#[115, 105, 122, 101]⟩), .const (.string ⟨#[108, 111, 119]⟩), .const (.string ⟨#[104, 105, 103, 104]⟩), .const (.string ⟨#[115, 116, 114, 105, 100, 101]⟩), .const (.string ⟨#[100, 111, 109, 97, 105, 110]⟩)]) u63 inf9) ?_
  refine Z150 ?_
  refine gL (xs := [.tmp 186, .tmp 188]) rfl (c176 [⟨#[115, 105, 122, 101]⟩, ⟨#[108, 111, 119]⟩, ⟨#[104, 105, 103, 104]⟩, ⟨#[115, 116, 114, 105, 100, 101]⟩, ⟨#[100, 111, 109, 97, 105, 110]⟩] name (by decide)) ?_
  refine Z147 ?_
  refine sg rfl (fun hg => sP 191 rfl hg (qL u3)) ?_
  refine sg rfl (fun hg => sP 192 rfl hg q_eql) ?_
  refine Z149 ?_;refine Z13 ?_
  refine g_callg (xs := [.tmp 196, .const (.string ⟨#[101]⟩)]) rfl (fun hg => (Tr.d_mk op name num ks ▸ c239 (.mk op name num ks) ⟨#[101]⟩ hok)) ?_
  refine Z145 ?_
  obtain rfl := eq_of_beq hb17
  refine Z4 ?_
  exact Y0
 refine Z159 ?_
 refine zgC ?_ ?_ <;> intro hb18
 ·
  refine Z5 ?_
  have hmf := (meth_facts name).1
  refine Z150 ?_
  refine gL (xs := [.tmp 203]) rfl (c228 name) ?_
  refine Z2 ?_;refine Z197 ?_;refine Z56 ?_;refine Z162 ?_;refine Z1 ?_;refine Z55 ?_;refine Z74 ?_
  refine g_cg0 [208, 209, 210, 211, 212, 213, 214, 215, 216, 217, 218, 219, 220, 221, 2] ?_
  refine Z125 ?_
  refine cS 1 (fun _ _ _ _ _ => vq rfl qM (gN ⟨rfl, rfl⟩)) ?_
  refine cP [0] ?_
  refine cS 2 (fun _ _ _ _ _ => vq rfl q_geq (gN ⟨rfl, rfl⟩)) ?_
  refine cP [1] ?_
  refine cS 3 (fun _ _ _ _ _ => vq rfl qM (gN ⟨rfl, rfl⟩)) ?_
  refine cP [2] ?_
  refine cS 4 (fun _ _ _ _ _ => sg rfl (fun hg => qF u27 rfl sz3) (gN ⟨rfl, rfl⟩)) ?_
  refine cP [3, 2] ?_
  refine cS 5 (fun _ _ _ _ _ => sg rfl (fun hg => sP 211 rfl hg (qL u3)) (gN ⟨rfl, rfl⟩)) ?_
  refine cP [4, 2] ?_
  refine cS 6 (fun _ _ _ _ _ => sg rfl (fun hg => sP 212 rfl hg q_eql) (gN ⟨rfl, rfl⟩)) ?_
  refine cP [2, 5] ?_
  refine cS 7 (fun _ _ _ _ _ => vq rfl q_and (gN ⟨rfl, rfl⟩)) ?_
  refine cP [6, 2] ?_
  refine cS 8 (fun _ _ _ _ _ => vq rfl qM (gN ⟨rfl, rfl⟩)) ?_
  refine cP [7] ?_
  refine cS 9 (fun _ _ _ _ _ => sg rfl (fun hg => qG (by exact sz27) u27 rfl) (gN ⟨rfl, rfl⟩)) ?_
  refine cP [7] ?_
  refine cS 10 (fun _ _ _ _ _ => sg rfl (fun hg => qM) (gN ⟨rfl, rfl⟩)) ?_
  refine cP [9, 7] ?_
  refine cS 11 (fun _ _ _ _ _ => sg rfl (fun hg => sP 217 rfl hg q_add) (gN ⟨rfl, rfl⟩)) ?_
  refine cP [10, 7] ?_
  refine cS 12 (fun _ _ _ _ _ => sg rfl (fun hg => sP 218 rfl hg (q_strh u9 (h0 := by simp at hg; omega) (h1 := by show _ ≤ (3 : Int); simp at hg; omega))) (gN ⟨rfl, rfl⟩)) ?_
  refine cP [8, 11, 7, 7] ?_
  refine cS 13 (fun _ _ _ _ _ => g_callg (xs := [.tmp 216, .tmp 219]) rfl (fun hg => (Tr.d_mk op name num ks ▸ c239 (.mk op name num ks) (eee.extract 0 ((methR name).1 + 1).toNat) hok)) (gN ⟨rfl, rfl⟩)) ?_
  refine cP [7, 12] ?_
  refine cS 14 (fun _ _ _ _ _ => vq rfl q_and (gN ⟨rfl, rfl⟩)) ?_
  refine cP [13, 12, 0, 1, 2, 3, 4, 5, 6, 7, 8, 9, 10, 11, 12, 13] ?_
  refine cS 15 (fun _ _ _ _ _ => vq rfl qA (gN ⟨rfl, rfl⟩)) ?_
  refine cg_done ?_
  refine tN (gT (bR (tR ?_)))
  obtain rfl := eq_of_beq hb18
  refine Z4 ?_
  exact Y0
 refine Z39 ?_;refine Z136 ?_
 refine zgC ?_ ?_ <;> intro hb19
 ·
  refine Z77 ?_
  refine zgC ?_ ?_ <;> intro hb20
  ·
   refine Z156 ?_
   refine gL (xs := [.tmp 225]) rfl ((Tr.d_mk op name num ks ▸ c177 (.mk op name num ks))) ?_
   refine Z166 ?_
   refine sg rfl (fun hg => sP 228 rfl hg (qL u22)) ?_
   refine sg rfl (fun hg => sP 229 rfl hg (q_len u22)) ?_
   refine sg rfl (fun hg => sP 230 rfl hg q_eql) ?_
   refine Z145 ?_
   obtain rfl := eq_of_beq hb20
   refine Z4 ?_
   exact Y0
  exact absurd (hb19.symm.trans hb20) (by decide)
 refine Z187 ?_
 refine zgC ?_ ?_ <;> intro hb21
 ·
  refine Z38 ?_;refine Z74 ?_;refine Z17 ?_;refine Z7 ?_
  refine gL (xs := [.tmp 225]) rfl ((Tr.d_mk op name num ks ▸ c177 (.mk op name num ks))) ?_
  refine Z166 ?_
  refine sg rfl (fun hg => sP 228 rfl hg (qL u22)) ?_
  refine sg rfl (fun hg => sP 229 rfl hg (q_len u22)) ?_
  refine sg rfl (fun hg => sP 230 rfl hg q_eql) ?_
  refine Z145 ?_
  obtain rfl := eq_of_beq hb21
  refine Z4 ?_
  exact Y0
 refine Z38 ?_;refine Z74 ?_;refine Z187 ?_
 refine zgC ?_ ?_ <;> intro hb22
 ·
  refine Z5 ?_
  refine sv rfl (y_buildSlice (xs := [.const (.string ⟨#[43]⟩), .const (.string ⟨#[42]⟩), .const (.string ⟨#[109, 105, 110]⟩), .const (.string ⟨#[109, 97, 120]⟩)]) u63 inf9) ?_
  refine Z150 ?_
  refine gL (xs := [.tmp 235, .tmp 237]) rfl (c176 [⟨#[43]⟩, ⟨#[42]⟩, ⟨#[109, 105, 110]⟩, ⟨#[109, 97, 120]⟩] name (by decide)) ?_
  refine Z147 ?_
  refine sg rfl (fun hg => sP 240 rfl hg (qL u3)) ?_
  refine sg rfl (fun hg => sP 241 rfl hg q_eql) ?_
  refine Z149 ?_;refine Z13 ?_
  refine g_callg (xs := [.tmp 245, .const (.string ⟨#[101]⟩)]) rfl (fun hg => (Tr.d_mk op name num ks ▸ c239 (.mk op name num ks) ⟨#[101]⟩ hok)) ?_
  refine Z145 ?_
  obtain rfl := eq_of_beq hb22
  refine Z4 ?_
  exact Y0
 refine Z159 ?_
 refine zgC ?_ ?_ <;> intro hb23
 ·
  refine Z156 ?_
  refine gL (xs := [.tmp 250]) rfl ((Tr.d_mk op name num ks ▸ c177 (.mk op name num ks))) ?_
  refine Z167 ?_
  refine g_callg (xs := [.tmp 253, .const (.string ⟨#[101, 101, 101]⟩)]) rfl (fun hg => (Tr.d_mk op name num ks ▸ c239 (.mk op name num ks) ⟨#[101, 101, 101]⟩ hok)) ?_
  refine Z145 ?_
  obtain rfl := eq_of_beq hb23
  refine Z4 ?_
  exact Y0
 refine Z116 ?_;refine Z131 ?_
 exfalso
 simp only [isExprB, Bool.and_eq_true, decide_eq_true_eq, bne_iff_ne] at hE
 simp only [beq_eq_false_iff_ne] at hb0 hb1 hb2 hb3 hb4 hb5 hb7 hb9 hb10 hb11 hb13 hb14 hb17 hb18 hb19 hb21 hb22 hb23
 omega
end Go.Proofs.YtklkbfpjimeaoaaGreat
