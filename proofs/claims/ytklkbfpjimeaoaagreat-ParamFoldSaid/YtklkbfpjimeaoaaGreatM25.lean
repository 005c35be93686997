import Derived.Test.YtklkbfpjimeaoaaGreatM24
/- Contracts of functions. Conditions: none. -/
set_option linter.unusedSimpArgs false
set_option linter.unusedVariables false
namespace Go.Proofs.YtklkbfpjimeaoaaGreat
open Go Go.Proofs.YtklkbfpjimeaoaaGreat.E
section
def NS (op : Int) : Prop := isExprB op = true ∨ op = 30 ∨ op = 3 ∨ op = 31 ∨ op = 67
def KR (k k' : Tr) : Prop := (k'.op = k.op ∧ (k.op ≠ 66 → k'.nm = k.nm)) ∨ (k.op = 4 ∧ (k'.op = 1 ∨ k'.op = 2))
variable {k k' : Tr}
theorem KR.kind (h : KR k k') {c : Int} (hc : c = 110 → k'.op = k.op) (hk : kindOk c k.op = true) : kindOk c k'.op = true := by
 rcases h with h | h
 · rw [h.1]; exact hk
 · by_cases h110 : c = 110
   · rw [hc h110]; exact hk
   · by_cases h101 : c = 101
     · subst h101
       rcases h.2 with h2 | h2 <;> rw [h2] <;> rfl
     · by_cases h98 : c = 98
       · subst h98
         rw [h.1] at hk
         exact absurd hk (by decide)
       · unfold kindOk
         rw [if_neg h101, if_neg h98, if_neg h110]
theorem KR.expr (h : KR k k') (hk : isExprB k.op = true) : isExprB k'.op = true := by
 rcases h with h | ⟨_, h | h⟩
 · rw [h.1]; exact hk
 · rw [h]; rfl
 · rw [h]; rfl
theorem KR.same (h : KR k k') (h4 : k.op ≠ 4) : k'.op = k.op := by
 rcases h with h | h
 · exact h.1
 · exact absurd h.1 h4
variable {ks ks' : List Tr}
theorem kidsB_mono {s : ByteArray} (hl : ks'.length = ks.length) (h : kidsB ks s = true)
 (hk : ∀ (i : Nat) (k k' : Tr), ks[i]? = some k → ks'[i]? = some k' → kindOk ((s[i]!).toNat : Nat) k.op = true → kindOk ((s[i]!).toNat : Nat) k'.op = true) : kidsB ks' s = true := by
 have h2 := kidsB_len h
 unfold kidsB
 rw [Bool.and_eq_true, decide_eq_true_eq, List.all_eq_true]
 refine ⟨by rw [hl]; exact h2, ?_⟩
 rintro ⟨k', i⟩ hx
 have hx' := List.mem_zipIdx_iff_getElem?.1 hx
 have hi := (lG hx')
 have hk2 : ks[i]? = some (ks[i]'(by omega)) := gE (by omega)
 exact hk i _ k' hk2 hx' (kidsB_at h hk2)
theorem everyB_all {p : Int → Bool} : everyB p ks = true ↔ ∀ k ∈ ks, p k.op = true := by
 unfold everyB
 rw [Bool.not_eq_true', List.any_eq_false]
 constructor
 · intro h k hk; simpa using h k hk
 · intro h k hk; rw [h k hk]; decide
theorem get_of (hl : ks'.length = ks.length) {i : Nat} {k' : Tr} (h : ks'[i]? = some k') : ∃ k, ks[i]? = some k := by
 have hi := (lG h)
 exact ⟨_, gE (by omega)⟩
theorem everyB_mono {p : Int → Bool} (hl : ks'.length = ks.length) (h : everyB p ks = true)
 (hk : ∀ (i : Nat) (k k' : Tr), ks[i]? = some k → ks'[i]? = some k' → p k.op = true → p k'.op = true) : everyB p ks' = true := by
 rw [everyB_all] at h ⊢
 intro k' hk'
 obtain ⟨i, hi⟩ := List.getElem?_of_mem hk'
 obtain ⟨k, hk2⟩ := get_of hl hi
 exact hk i k k' hk2 hi (h k (mG hk2))
theorem opK_some {i : Nat} {n : Int} (h : (opK i ks == n) = true) (hn : n ≠ 0) : ∃ k, ks[i]? = some k ∧ k.op = n := by
 unfold opK at h
 cases hk : ks[i]? with
 | none => rw [hk] at h; exact absurd (by simpa using h) (fun h0 : (0 : Int) = n => hn h0.symm)
 | some k => rw [hk] at h; exact ⟨k, rfl, by simpa using h⟩
theorem varTail_iff {nu : Int} {l : List Tr} : varTail nu l = true ↔ (andI nu 2 ≠ 0 ∧ ∃ k, l = [k] ∧ isExprB k.op = true) ∨ (andI nu 2 = 0 ∧ l = []) := by
 unfold varTail
 by_cases h : andI nu 2 = 0
 · rw [if_neg (by simpa using h)]
   simp [h]
 · rw [if_pos (by simpa using h)]
   cases l with
   | nil => simp [h]
   | cons k r => cases r with
    | nil => simp [h]
    | cons k2 r => simp [h]; intro _; omega
def KRs (op num : Int) (ks ks' : List Tr) : Prop := ks'.length = ks.length ∧ ∀ (i : Nat) (k k' : Tr), ks[i]? = some k → ks'[i]? = some k' → KR k k' ∧ (keepsB op num ks.length i k = true → k.op = 4 → k' = k)
variable {op num : Int}
theorem KRs.kids (h : KRs op num ks ks') {s : ByteArray} (hs : ∀ i, i < s.size → ((s[i]!).toNat : Int) ≠ 110) (hk : kidsB ks s = true) : kidsB ks' s = true :=
 kidsB_mono h.1 hk fun i k k' h1 h2 h3 => (h.2 i k k' h1 h2).1.kind (fun h4 => absurd h4 (hs i (by have := kidsB_len hk; have := (lG h1); omega))) h3
theorem KRs.every (h : KRs op num ks ks') {p : Int → Bool} (hp : ∀ k k', KR k k' → p k.op = true → p k'.op = true) (hk : everyB p ks = true) : everyB p ks' = true :=
 everyB_mono h.1 hk fun i k k' h1 h2 h3 => hp k k' (h.2 i k k' h1 h2).1 h3
theorem KRs.get0 (h : KRs op num ks ks') {k : Tr} (hk : ks[0]? = some k) : ∃ k', ks'[0]? = some k' ∧ KR k k' ∧ (keepsB op num ks.length 0 k = true → k.op = 4 → k' = k) := by
 have hi := (lG hk)
 have hl := h.1
 have h2 : ks'[0]? = some (ks'[0]'(by omega)) := gE (by omega)
 exact ⟨_, h2, h.2 0 k _ hk h2⟩
theorem n1 : ∀ i, i < (⟨#[101]⟩ : ByteArray).size → (((⟨#[101]⟩ : ByteArray)[i]!).toNat : Int) ≠ 110 := by decide
theorem n2 : ∀ i, i < (⟨#[101, 101]⟩ : ByteArray).size → (((⟨#[101, 101]⟩ : ByteArray)[i]!).toNat : Int) ≠ 110 := by decide
theorem n3 : ∀ i, i < (⟨#[101, 98]⟩ : ByteArray).size → (((⟨#[101, 98]⟩ : ByteArray)[i]!).toNat : Int) ≠ 110 := by decide
theorem n4 : ∀ i, i < (⟨#[101, 98, 98]⟩ : ByteArray).size → (((⟨#[101, 98, 98]⟩ : ByteArray)[i]!).toNat : Int) ≠ 110 := by decide
theorem n5 : ∀ i, i < (⟨#[98]⟩ : ByteArray).size → (((⟨#[98]⟩ : ByteArray)[i]!).toNat : Int) ≠ 110 := by decide
theorem loops_of {n : Nat} (ho : op = 54 ∨ op = 55 ∨ op = 56) (hn : num = 1 ∨ num = 2) (h : num + 2 ≤ n) : loopsB op num n = true := by
 unfold loopsB
 have hw : W (num + 2) = num + 2 := by rcases hn with rfl | rfl <;> rfl
 rw [hw]
 simp only [Bool.and_eq_true, Bool.or_eq_true, beq_iff_eq, decide_eq_true_eq]
 omega
variable {nm : ByteArray}
theorem rule157_mono (ho : op = 54 ∨ op = 55 ∨ op = 56) (h : KRs op num ks ks') (hr : rule157 (.mk op nm num ks) = true) : rule157 (.mk op nm num ks') = true := by
 rw [rule157] at hr ⊢
 split at hr
 · rename_i hc
   rw [h.1, if_pos hc]
   have hlo : loopsB op num ks.length = true := loops_of ho hc.1 hc.2
   rw [Bool.and_eq_true] at hr ⊢
   refine ⟨kidsB_mono (by rw [List.length_take, List.length_take, h.1]) hr.1 fun i k k' h1 h2 h3 => ?_, ?_⟩
   · have hi : i < (num + 2).toNat := by have := (lG h1); rw [List.length_take] at this; omega
     rw [List.getElem?_take, if_pos hi] at h1 h2
     obtain ⟨h4, h5⟩ := h.2 i k k' h1 h2
     refine h4.kind (fun h6 => ?_) h3
     rw [h5 ?_ (by rw [h6] at h3; simpa [kindOk] using h3)]
     unfold keepsB
     rw [hlo, Bool.true_and, Bool.or_eq_true, decide_eq_true_eq]
     refine .inr ?_
     rcases hc.1 with rfl | rfl
     · have hi3 : i < 3 := by simpa using hi
       match i, hi3 with
       | 0, _ => decide
       | 1, _ => exact absurd h6 (by decide)
       | 2, _ => exact absurd h6 (by decide)
     · have hi4 : i < 4 := by simpa using hi
       match i, hi4 with
       | 0, _ => decide
       | 1, _ => decide
       | 2, _ => exact absurd h6 (by decide)
       | 3, _ => exact absurd h6 (by decide)
   · rw [Bool.or_eq_true] at hr ⊢
     rcases hr.2 with h7 | h7
     · refine .inl ?_
       rw [List.length_drop, h.1, ← List.length_drop]; exact h7
     · refine .inr ?_
       rw [Bool.and_eq_true] at h7 ⊢
       refine ⟨h7.1, everyB_mono (by rw [List.length_drop, List.length_drop, h.1]) h7.2 fun i k k' h1 h2 h3 => ?_⟩
       rw [List.getElem?_drop] at h1 h2
       have h4 := (h.2 _ k k' h1 h2).1
       have h5 : k.op = 67 := by simpa using h3
       rw [h4.same (by omega)]; exact h3
 · cases hr
theorem right_stmt (ho : isStmtB op = true) (hr : rightB (.mk op nm num ks) = true) (h : KRs op num ks ks') : rightB (.mk op nm num ks') = true := by
 have ho2 : op = 50 ∨ op = 51 ∨ op = 52 ∨ op = 53 ∨ op = 54 ∨ op = 55 ∨ op = 56 ∨ op = 57 ∨ op = 58 ∨ op = 59 ∨ op = 60 ∨ op = 61 ∨ op = 62 ∨ op = 63 ∨ op = 64 ∨ op = 65 ∨ op = 66 := by
  unfold isStmtB at ho
  simp only [Bool.and_eq_true, decide_eq_true_eq] at ho
  omega
 rcases ho2 with rfl | rfl | rfl | rfl | rfl | rfl | rfl | rfl | rfl | rfl | rfl | rfl | rfl | rfl | rfl | rfl | rfl
 · rw [right50, varB] at hr ⊢
   split at hr
   · cases hr
   · rename_i h1
     rw [if_neg h1]
     split at hr
     · rename_i h2
       rw [if_pos h2]
       cases ks with
       | nil => cases hr
       | cons k r =>
        cases ks' with
        | nil => exact absurd h.1 (by simp)
        | cons k' r' =>
         rw [varTy, Bool.and_eq_true] at hr ⊢
         have hk := (h.2 0 k k' rfl rfl).1
         refine ⟨?_, ?_⟩
         · have h3 := hr.1
           unfold varType at h3 ⊢
           have h4 : k.op = 31 ∨ k.op = 30 := by
            simp only [Bool.not_eq_true', Bool.and_eq_false_iff, bne_eq_false_iff_eq, Bool.or_eq_false_iff] at h3
            rcases h3 with h3 | h3
            · exact .inl h3
            · exact .inr h3.1
           rcases hk with hk | hk
           · rw [hk.1, hk.2 (by omega)]; exact h3
           · exact absurd hk.1 (by omega)
         · rw [varTail_iff] at hr ⊢
           rcases hr.2 with ⟨h5, x, rfl, h6⟩ | ⟨h5, rfl⟩
           · refine .inl ⟨h5, ?_⟩
             match r', h.1 with
             | [x'], _ => exact ⟨x', rfl, (h.2 1 x x' rfl rfl).1.expr h6⟩
           · refine .inr ⟨h5, ?_⟩
             match r', h.1 with
             | [], _ => rfl
     · rename_i h2
       rw [if_neg h2]
       rw [varTail_iff] at hr ⊢
       rcases hr with ⟨h5, x, rfl, h6⟩ | ⟨h5, rfl⟩
       · refine .inl ⟨h5, ?_⟩
         match ks', h.1 with
         | [x'], _ => exact ⟨x', rfl, (h.2 0 x x' rfl rfl).1.expr h6⟩
       · refine .inr ⟨h5, ?_⟩
         match ks', h.1 with
         | [], _ => rfl
 · rw [right51, Bool.and_eq_true, Bool.and_eq_true] at hr ⊢
   refine ⟨⟨hr.1.1, h.kids n2 hr.1.2⟩, ?_⟩
   rw [Bool.or_eq_true] at hr ⊢
   rcases hr.2 with h1 | h1
   · obtain ⟨k, hk, hk4⟩ := opK_some h1 (by decide)
     obtain ⟨k', hk', _, h3⟩ := h.get0 hk
     rw [opK_get hk', h3 (by unfold keepsB; rw [hk4]; rfl) hk4, hk4]
     exact .inl rfl
   · obtain ⟨k, hk, hk4⟩ := opK_some h1 (by decide)
     obtain ⟨k', hk', h2, _⟩ := h.get0 hk
     rw [opK_get hk', h2.same (by omega), hk4]
     exact .inr rfl
 · rw [right52, Bool.and_eq_true, Bool.or_eq_true] at hr ⊢
   exact ⟨hr.1, hr.2.imp (h.kids n3) (h.kids n4)⟩
 · rw [right53, Bool.and_eq_true] at hr ⊢
   exact ⟨hr.1, h.kids n3 hr.2⟩
 · rw [right54, loopRB, Bool.and_eq_true] at hr ⊢
   exact Y8
 · rw [right55, loopRB, Bool.and_eq_true] at hr ⊢
   exact Y8
 · rw [right56, loopRB, Bool.and_eq_true] at hr ⊢
   exact Y8
 · rw [right57, Bool.and_eq_true] at hr ⊢
   exact ⟨hr.1, h.kids n5 hr.2⟩
 · rw [right58, Bool.and_eq_true, Bool.and_eq_true] at hr ⊢
   refine ⟨h.every (p := fun op => op == 66) (fun k k' h1 h2 => ?_) hr.1, hr.2.1, by rw [h.1]; exact hr.2.2⟩
   have h3 : k.op = 66 := by simpa using h2
   show (k'.op == 66) = true
   rw [h1.same (by omega), h3]; rfl
 · rw [right59, Bool.and_eq_true] at hr ⊢
   exact ⟨hr.1, h.kids n5 hr.2⟩
 · rw [right60, Bool.and_eq_true] at hr ⊢
   exact ⟨hr.1, h.kids n3 hr.2⟩
 · rw [right61, Bool.and_eq_true, Bool.or_eq_true] at hr ⊢
   exact ⟨hr.1, hr.2.imp (fun h1 => by rw [h.1]; exact h1) (h.kids n1)⟩
 · rw [right62, Bool.and_eq_true] at hr ⊢
   exact ⟨hr.1, h.kids n1 hr.2⟩
 · rw [right63, Bool.and_eq_true, Bool.and_eq_true] at hr ⊢
   refine ⟨⟨hr.1.1, by rw [h.1]; exact hr.1.2⟩, ?_⟩
   rw [Bool.or_eq_true] at hr ⊢
   rcases hr.2 with h1 | h1
   · obtain ⟨k, hk, hk4⟩ := opK_some h1 (by decide)
     obtain ⟨k', hk', h2, _⟩ := h.get0 hk
     rw [opK_get hk', h2.same (by omega), hk4]
     exact .inl rfl
   · obtain ⟨k, hk, hk4⟩ := opK_some h1 (by decide)
     obtain ⟨k', hk', h2, _⟩ := h.get0 hk
     rw [opK_get hk', h2.same (by omega), hk4]
     exact .inr rfl
 · rw [right64, Bool.and_eq_true] at hr ⊢
   refine ⟨h.every (fun k k' h1 h2 => ?_) hr.1, hr.2⟩
   rw [Bool.or_eq_true] at h2 ⊢
   rcases h2 with h2 | h2
   · exact .inl (h1.expr h2)
   · have h3 : k.op = 3 := by simpa using h2
     rw [h1.same (by omega)]; exact .inr h2
 · rw [right65, Bool.and_eq_true] at hr ⊢
   exact ⟨hr.1, h.kids n1 hr.2⟩
 · rw [right66, Bool.and_eq_true] at hr ⊢
   exact ⟨h.every (fun k k' h1 h2 => by rw [h1.same (stmt_ne h2).1]; exact h2) hr.1, hr.2⟩
theorem kinds_of {s : ByteArray} (hs : ∀ i, i < s.size → ((s[i]!).toNat : Int) = 101 ∨ ((s[i]!).toNat : Int) = 98 ∨ ((s[i]!).toNat : Int) = 110) (h : kidsB ks s = true) : ∀ k ∈ ks, k.op = 66 ∨ isExprB k.op = true := by
 intro k hk
 obtain ⟨i, hi⟩ := List.getElem?_of_mem hk
 have h1 := kidsB_at h hi
 have h2 := (lG hi)
 have h3 := kidsB_len h
 rcases hs i (by omega) with h4 | h4 | h4 <;> rw [h4] at h1
 · exact .inr h1
 · exact .inl (by simpa [kindOk] using h1)
 · refine .inr ?_
   have : k.op = 4 := by simpa [kindOk] using h1
   rw [this]; rfl
theorem m1 : ∀ i, i < (⟨#[101]⟩ : ByteArray).size → (((⟨#[101]⟩ : ByteArray)[i]!).toNat : Int) = 101 ∨ (((⟨#[101]⟩ : ByteArray)[i]!).toNat : Int) = 98 ∨ (((⟨#[101]⟩ : ByteArray)[i]!).toNat : Int) = 110 := by decide
theorem m2 : ∀ i, i < (⟨#[101, 101]⟩ : ByteArray).size → (((⟨#[101, 101]⟩ : ByteArray)[i]!).toNat : Int) = 101 ∨ (((⟨#[101, 101]⟩ : ByteArray)[i]!).toNat : Int) = 98 ∨ (((⟨#[101, 101]⟩ : ByteArray)[i]!).toNat : Int) = 110 := by decide
theorem m3 : ∀ i, i < (⟨#[101, 98]⟩ : ByteArray).size → (((⟨#[101, 98]⟩ : ByteArray)[i]!).toNat : Int) = 101 ∨ (((⟨#[101, 98]⟩ : ByteArray)[i]!).toNat : Int) = 98 ∨ (((⟨#[101, 98]⟩ : ByteArray)[i]!).toNat : Int) = 110 := by decide
theorem m4 : ∀ i, i < (⟨#[101, 98, 98]⟩ : ByteArray).size → (((⟨#[101, 98, 98]⟩ : ByteArray)[i]!).toNat : Int) = 101 ∨ (((⟨#[101, 98, 98]⟩ : ByteArray)[i]!).toNat : Int) = 98 ∨ (((⟨#[101, 98, 98]⟩ : ByteArray)[i]!).toNat : Int) = 110 := by decide
theorem m5 : ∀ i, i < (⟨#[98]⟩ : ByteArray).size → (((⟨#[98]⟩ : ByteArray)[i]!).toNat : Int) = 101 ∨ (((⟨#[98]⟩ : ByteArray)[i]!).toNat : Int) = 98 ∨ (((⟨#[98]⟩ : ByteArray)[i]!).toNat : Int) = 110 := by decide
theorem loop_kids (hr : rule157 (.mk op nm num ks) = true) : ∀ k ∈ ks, k.op = 66 ∨ isExprB k.op = true ∨ k.op = 67 := by
 rw [rule157] at hr
 split at hr
 · rename_i hc
   rw [Bool.and_eq_true, Bool.or_eq_true] at hr
   intro k hk
   rw [← List.take_append_drop (num + 2).toNat ks] at hk
   rcases List.mem_append.1 hk with hk | hk
   · have h1 := kinds_of (by rcases hc.1 with rfl | rfl <;> decide) hr.1 k hk
     rcases h1 with h1 | h1
     · exact .inl h1
     · exact .inr (.inl h1)
   · rcases hr.2 with h2 | h2
     · have h3 : (ks.drop (num + 2).toNat).length = 0 := by simpa using h2
       rw [List.length_eq_zero_iff.1 h3] at hk
       cases hk
     · rw [Bool.and_eq_true, everyB_all] at h2
       exact .inr (.inr (by simpa using h2.2 k hk))
 · cases hr
theorem stmt_kid (ho : isStmtB op = true) (h66 : op ≠ 66) (hr : rightB (.mk op nm num ks) = true) : ∀ k ∈ ks, k.op = 66 ∨ NS k.op := by
 have ho2 : op = 50 ∨ op = 51 ∨ op = 52 ∨ op = 53 ∨ op = 54 ∨ op = 55 ∨ op = 56 ∨ op = 57 ∨ op = 58 ∨ op = 59 ∨ op = 60 ∨ op = 61 ∨ op = 62 ∨ op = 63 ∨ op = 64 ∨ op = 65 := by
  unfold isStmtB at ho
  simp only [Bool.and_eq_true, decide_eq_true_eq] at ho
  omega
 have hE : (∀ k ∈ ks, k.op = 66 ∨ isExprB k.op = true) → ∀ k ∈ ks, k.op = 66 ∨ NS k.op := fun h k hk => (h k hk).imp id .inl
 have hL : (∀ k ∈ ks, k.op = 66 ∨ isExprB k.op = true ∨ k.op = 67) → ∀ k ∈ ks, k.op = 66 ∨ NS k.op := fun h k hk => by
  rcases h k hk with h | h | h
  · exact .inl h
  · exact .inr (.inl h)
  · exact .inr (.inr (.inr (.inr (.inr h))))
 rcases ho2 with rfl | rfl | rfl | rfl | rfl | rfl | rfl | rfl | rfl | rfl | rfl | rfl | rfl | rfl | rfl | rfl
 · rw [right50, varB] at hr
   split at hr
   · cases hr
   · split at hr
     · cases ks with
       | nil => cases hr
       | cons k r =>
        rw [varTy, Bool.and_eq_true, varTail_iff] at hr
        intro x hx
        rcases List.mem_cons.1 hx with rfl | hx
        · have h3 := hr.1
          unfold varType at h3
          simp only [Bool.not_eq_true', Bool.and_eq_false_iff, bne_eq_false_iff_eq, Bool.or_eq_false_iff] at h3
          rcases h3 with h3 | h3
          · exact .inr (.inr (.inr (.inr (.inl h3))))
          · exact .inr (.inr (.inl h3.1))
        · rcases hr.2 with ⟨_, y, rfl, h6⟩ | ⟨_, rfl⟩
          · rw [List.mem_singleton.1 hx]; exact .inr (.inl h6)
          · cases hx
     · rw [varTail_iff] at hr
       intro x hx
       rcases hr with ⟨_, y, rfl, h6⟩ | ⟨_, rfl⟩
       · rw [List.mem_singleton.1 hx]; exact .inr (.inl h6)
       · cases hx
 · rw [right51, Bool.and_eq_true, Bool.and_eq_true] at hr
   exact hE (kinds_of m2 hr.1.2)
 · rw [right52, Bool.and_eq_true, Bool.or_eq_true] at hr
   exact hE (hr.2.elim (kinds_of m3) (kinds_of m4))
 · rw [right53, Bool.and_eq_true] at hr
   exact hE (kinds_of m3 hr.2)
 · rw [right54, loopRB, Bool.and_eq_true] at hr
   exact hL (loop_kids hr.2)
 · rw [right55, loopRB, Bool.and_eq_true] at hr
   exact hL (loop_kids hr.2)
 · rw [right56, loopRB, Bool.and_eq_true] at hr
   exact hL (loop_kids hr.2)
 · rw [right57, Bool.and_eq_true] at hr
   exact hE (kinds_of m5 hr.2)
 · rw [right58, Bool.and_eq_true, everyB_all] at hr
   exact fun k hk => .inl (by simpa using hr.1 k hk)
 · rw [right59, Bool.and_eq_true] at hr
   exact hE (kinds_of m5 hr.2)
 · rw [right60, Bool.and_eq_true] at hr
   exact hE (kinds_of m3 hr.2)
 · rw [right61, Bool.and_eq_true, Bool.or_eq_true] at hr
   rcases hr.2 with h1 | h1
   · have h3 : ks.length = 0 := by simpa using h1
     rw [List.length_eq_zero_iff.1 h3]
     simp
   · exact hE (kinds_of m1 h1)
 · rw [right62, Bool.and_eq_true] at hr
   exact hE (kinds_of m1 hr.2)
 · rw [right63, Bool.and_eq_true, Bool.and_eq_true, Bool.or_eq_true] at hr
   have h1 : ks.length = 1 := by have := hr.1.2; simp at this; omega
   obtain ⟨k, rfl⟩ := list1 h1
   intro x hx
   rw [List.mem_singleton.1 hx]
   refine .inr (.inl ?_)
   rcases hr.2 with h2 | h2
   · have h3 : k.op = 13 := by simpa [opK] using h2
     rw [h3]; rfl
   · have h3 : k.op = 15 := by simpa [opK] using h2
     rw [h3]; rfl
 · rw [right64, Bool.and_eq_true, everyB_all] at hr
   intro k hk
   have h1 := hr.1 k hk
   rw [Bool.or_eq_true] at h1
   rcases h1 with h1 | h1
   · exact .inr (.inl h1)
   · exact .inr (.inr (.inr (.inl (by simpa using h1))))
 · rw [right65, Bool.and_eq_true] at hr
   exact hE (kinds_of m1 hr.2)
end
section
def ifB (op : Int) (ks : List Tr) : Bool := op == 52 && isV (v0 (Tr.values [] ks) 0) 2
mutual
def Tr.knB : Tr → Bool
 | .mk op _ _ ks => ifB op ks || Tr.knsB ks
def Tr.knsB : List Tr → Bool
 | [] => false
 | k :: r => k.knB || Tr.knsB r
end
theorem Tr.knsB_any : ∀ ks : List Tr, Tr.knsB ks = ks.any Tr.knB
 | [] => rfl
 | k :: r => by rw [Tr.knsB, Tr.knsB_any r]; rfl
theorem Tr.knB_mk (op : Int) (nm : ByteArray) (num : Int) (ks : List Tr) : (Tr.mk op nm num ks).knB = (ifB op ks || ks.any Tr.knB) := by rw [Tr.knB, Tr.knsB_any]
def Tr.clean (t : Tr) : Prop := t.parB = false ∧ t.knB = false
variable {op num : Int} {nm : ByteArray} {ks : List Tr}
theorem clean_mk (h1 : isVarP op num = false) (h2 : ifB op ks = false) (h3 : ∀ k ∈ ks, k.clean) : (Tr.mk op nm num ks).clean := by
 constructor
 · rw [Tr.parB_mk, h1, Bool.false_or, List.any_eq_false]
   intro k hk; rw [(h3 k hk).1]; decide
 · rw [Tr.knB_mk, h2, Bool.false_or, List.any_eq_false]
   intro k hk; rw [(h3 k hk).2]; decide
theorem NS.ne (h : NS op) : op ≠ 50 ∧ op ≠ 52 ∧ op ≠ 66 := by
 rcases h with h | rfl | rfl | rfl | rfl
 · unfold isExprB at h
   simp only [Bool.and_eq_true, decide_eq_true_eq] at h
   omega
 all_goals decide
theorem ns_kids (hr : rightB (.mk op nm num ks) = true) (h : NS op) : ∀ k ∈ ks, NS k.op := by
 rcases h with h | rfl | rfl | rfl | rfl
 · intro k hk
   rcases expr_kid hr h k hk with h1 | h1
   · exact .inl h1
   · exact .inr (.inl h1)
 · obtain rfl := type_kids hr
   simp
 · rw [right3, textR] at hr
   have : ks.length = 0 := by simp at hr; simp [hr.1.1.2]
   rw [List.length_eq_zero_iff.1 this]
   simp
 · rw [right31, Bool.and_eq_true] at hr
   have h1 : kidsB ks e1 = true := hr.2
   rw [kidsB_e e1s, Bool.and_eq_true] at h1
   exact fun k hk => .inl (allE_mem h1.2 k hk)
 · rw [right67, Bool.and_eq_true] at hr
   intro k hk
   obtain ⟨i, hi⟩ := List.getElem?_of_mem hk
   have hl : ks.length = 1 := kidsB_len hr.2
   have hlt := (lG hi)
   obtain rfl : i = 0 := by omega
   have h1 : kindOk 110 k.op = true := kidsB_at hr.2 hi
   have h2 : k.op = 4 := by simpa [kindOk] using h1
   exact .inl (by rw [h2]; rfl)
theorem pure_clean : ∀ (n : Nat) (t : Tr), t.size ≤ n → t.shaped = true → NS t.op → t.clean := by
 intro n
 induction n with
 | zero => intro t h; exact absurd t.size_pos (by omega)
 | succ n ih =>
  intro t hsz hsh hns
  obtain ⟨op, nm, num, ks⟩ := t
  replace hns : NS op := hns
  obtain ⟨hr, hks⟩ := Tr.shaped_mk hsh
  have hn := hns.ne
  refine clean_mk (by unfold isVarP; rw [beq_eq_false_iff_ne.2 hn.1]; rfl) (by unfold ifB; rw [beq_eq_false_iff_ne.2 hn.2.1]; rfl) fun k hk => ?_
  exact ih k (by have := Tr.size_mem hk; rw [Tr.size] at hsz; omega) (hks k hk) (ns_kids hr hns k hk)
theorem ValOk.op12 {v : Tr} (h : ValOk v) : v.op = 1 ∨ v.op = 2 := by
 rcases h with ⟨n, _, rfl⟩ | ⟨b, rfl⟩
 · exact .inl rfl
 · exact .inr rfl
theorem put_KR {K : KL} (hK : KOk K) (t : Tr) : KR t (t.put K) := by
 obtain ⟨op, nm, num, ks⟩ := t
 by_cases h4 : op = 4
 · subst h4
   have hp : (Tr.mk 4 nm num ks).put K = match findK nm K with | some v => v | none => .mk 4 nm num ks := by rw [Tr.put, if_pos (show ((4 : Int) == 4) = true from rfl)]; try rfl
   rw [hp]
   cases hf : findK nm K with
   | none => exact .inl ⟨rfl, fun _ => rfl⟩
   | some v => exact .inr ⟨rfl, (findK_ok hK v hf).op12⟩
 · rw [Tr.put, if_neg (by simpa using h4)]
   split
   · exact .inl ⟨rfl, fun _ => rfl⟩
   · exact .inl ⟨rfl, fun _ => rfl⟩
theorem KR.ns {k k' : Tr} (h : KR k k') (hk : NS k.op) : NS k'.op := by
 rcases h with h | ⟨_, h | h⟩
 · rw [h.1]; exact hk
 · exact .inl (by rw [h]; rfl)
 · exact .inl (by rw [h]; rfl)
theorem loops_no {n : Nat} (h : op ≠ 54 ∧ op ≠ 55 ∧ op ≠ 56) : loopsB op num n = false := by
 unfold loopsB
 rw [beq_eq_false_iff_ne.2 h.1, beq_eq_false_iff_ne.2 h.2.1, beq_eq_false_iff_ne.2 h.2.2]; rfl
theorem put_ns {K : KL} (hK : KOk K) {t : Tr} (hsh : t.shaped = true) (hok : t.Ok) (hns : NS t.op) : (t.put K).size = t.size ∧ (t.put K).depth = t.depth ∧ (t.put K).shaped = true := by
 have hE : EK t.op → (t.put K).size = t.size ∧ (t.put K).depth = t.depth ∧ (t.put K).shaped = true := fun h => by
  obtain ⟨h1, h2, h3, _⟩ := put_facts hK _ t (Nat.le_refl _) hsh hok h
  exact ⟨h1, h2, h3⟩
 rcases hns with h | h | h | h | h
 · exact hE (.inl h)
 · exact hE (.inr h)
 · obtain ⟨op, nm, num, ks⟩ := t
   obtain rfl : op = 3 := h
   obtain ⟨hr, hks⟩ := Tr.shaped_mk hsh
   have hr' := hr
   rw [right3, textR] at hr
   have : ks.length = 0 := by simp at hr; simp [hr.1.1.2]
   obtain rfl := List.length_eq_zero_iff.1 this
   have hp : (Tr.mk 3 nm num []).put K = .mk 3 nm num [] := by rw [Tr.put, if_neg (by decide), if_neg (by decide), Tr.puts]
   rw [hp]; exact ⟨rfl, rfl, hsh⟩
 · obtain ⟨op, nm, num, ks⟩ := t
   obtain rfl : op = 31 := h
   obtain ⟨hr, hks⟩ := Tr.shaped_mk hsh
   rw [right31, Bool.and_eq_true] at hr
   have h1 : kidsB ks e1 = true := hr.2
   have hl : ks.length = 1 := kidsB_len h1
   obtain ⟨k, rfl⟩ := list1 hl
   rw [kidsB_e e1s, Bool.and_eq_true] at h1
   have hke := allE_mem h1.2 k (by simp)
   obtain ⟨h2, h3, h4, _, h5, _⟩ := put_facts hK _ k (Nat.le_refl _) (hks k (by simp)) (Tr.kids_ok hok k (show k ∈ [k] by simp)) (.inl hke)
   have hlo : ∀ n, loopsB 31 num n = false := fun n => loops_no (by decide)
   have hk1 : keepsB 31 num [k].length 0 k = false := by unfold keepsB; rw [hlo]; rfl
   have hp : (Tr.mk 31 nm num [k]).put K = .mk 31 nm num [k.put K] := by
    rw [Tr.put, if_neg (by decide), if_neg (by decide), Tr.puts, hk1, if_neg (by decide), hlo, Bool.false_and, if_neg (by decide), Tr.puts]
   rw [hp]
   refine ⟨by simp only [Tr.size, Tr.sizes, h2], by simp only [Tr.depth, Tr.deeps, h3], ?_⟩
   rw [Tr.shaped, Tr.shapeds, Tr.shapeds, h4, right31, Bool.and_true, Bool.and_true, Bool.and_eq_true]
   refine ⟨hr.1, ?_⟩
   rw [show (⟨#[101]⟩ : ByteArray) = e1 from rfl, kidsB_e e1s, Bool.and_eq_true]
   refine ⟨rfl, ?_⟩
   unfold allE
   rw [List.all_cons, List.all_nil, Bool.and_true, h5.1]; exact hke
 · obtain ⟨op, nm, num, ks⟩ := t
   obtain rfl : op = 67 := h
   have hp : (Tr.mk 67 nm num ks).put K = .mk 67 nm num ks := by rw [Tr.put, if_neg (by decide), if_pos (by decide)]
   rw [hp]; exact ⟨rfl, rfl, hsh⟩
theorem KOk.step {all : List Tr} {l inner : KL} (hl : KOk l) (hi : KOk inner) (i : Nat) (k : Tr) : KOk (stepT op num all l i inner k).2 := by
 unfold stepT
 split
 · exact hi.hideV k
 · split
   · exact hl.hideV k
   · exact hi.hideV k
theorem puts_get {all : List Tr} {l : KL} (hl : KOk l) : ∀ (ks : List Tr) (i : Nat) (inner : KL), KOk inner → ∀ (j : Nat) (k' : Tr), (Tr.puts op num all l i inner ks)[j]? = some k' →
 ∃ k K, ks[j]? = some k ∧ KOk K ∧ (k' = k ∨ (keepsB op num all.length (i + j) k = false ∧ k' = k.put K)) := by
 intro ks
 induction ks with
 | nil => intro i inner _ j k' h; rw [Tr.puts] at h; cases h
 | cons k r ih =>
  intro i inner hi j k' h
  rw [puts_cons] at h
  cases j with
  | zero =>
   have h1 : (stepT op num all l i inner k).1 = k' := by simpa using h
   by_cases hk : keepsB op num all.length i k = true
   · rw [stepT, if_pos hk] at h1
     exact ⟨k, inner, rfl, hi, .inl h1.symm⟩
   · rw [stepT, if_neg hk] at h1
     have hk2 : keepsB op num all.length (i + 0) k = false := by simpa using hk
     split at h1
     · exact ⟨k, _, rfl, hi.bind _, .inr ⟨hk2, h1.symm⟩⟩
     · exact ⟨k, inner, rfl, hi, .inr ⟨hk2, h1.symm⟩⟩
  | succ j =>
   obtain ⟨x, K, h1, h2, h3⟩ := ih (i + 1) _ (hl.step hi i k) j k' (by simpa using h)
   exact ⟨x, K, h1, h2, by rw [show i + (j + 1) = i + 1 + j by omega]; exact h3⟩
theorem bodies_get : ∀ (ks : List Tr) (lb : KL) (ps : List Tr), ps.length = ks.length → (Tr.bodies ks lb ps).2 = 0 → (Tr.bodies ks lb ps).1.length = ks.length ∧
 ∀ (i : Nat) (k k' : Tr), ks[i]? = some k → (Tr.bodies ks lb ps).1[i]? = some k' → (k.op ≠ 66 → ps[i]? = some k') ∧ (k.op = 66 → (k.kblock lb).2 = 0 ∧ k' = .mk 66 ⟨#[]⟩ 0 (k.kblock lb).1) := by
 intro ks
 induction ks with
 | nil => intro lb ps _ _; rw [Tr.bodies]; exact ⟨rfl, fun i k k' h => by cases h⟩
 | cons k r ih =>
  intro lb ps hp h0
  match ps, hp with
  | p :: q, hp =>
  have hp' : q.length = r.length := by simpa using hp
  rw [Tr.bodies] at h0 ⊢
  split
  · rename_i h1
    rw [if_pos h1] at h0
    obtain ⟨h2, h3⟩ := ih lb q hp' h0
    refine ⟨by simpa using h2, fun i x x' hx hx' => ?_⟩
    cases i with
    | zero =>
     have h4 : k = x := by simpa using hx
     have h5 : p = x' := by simpa using hx'
     subst h4; subst h5
     exact ⟨fun _ => rfl, fun h => absurd h (by simpa using h1)⟩
    | succ i => exact h3 i x x' (by simpa using hx) (by simpa using hx')
  · rename_i h1
    rw [if_neg h1] at h0
    split
    · rename_i h2
      rw [if_pos h2] at h0
      exact Y7
    · rename_i h2
      rw [if_neg h2] at h0
      obtain ⟨h3, h4⟩ := ih lb q hp' h0
      refine ⟨by simpa using h3, fun i x x' hx hx' => ?_⟩
      cases i with
      | zero =>
       have h5 : k = x := by simpa using hx
       subst h5
       exact ⟨fun h => absurd (by simpa using h1) h, fun _ => ⟨by simpa using h2, by simpa using hx'.symm⟩⟩
      | succ i => exact h4 i x x' (by simpa using hx) (by simpa using hx')
theorem sizes_le : ∀ (ks ks' : List Tr), ks'.length = ks.length → (∀ (i : Nat) (k k' : Tr), ks[i]? = some k → ks'[i]? = some k' → k'.size ≤ k.size) → Tr.sizes ks' ≤ Tr.sizes ks
 | [], [], _, _ => Nat.le_refl _
 | k :: r, k' :: r', h, h1 => by
  rw [Tr.sizes, Tr.sizes]
  have h2 := sizes_le r r' (by simpa using h) fun i x x' hx hx' => h1 (i + 1) x x' (by simpa using hx) (by simpa using hx')
  have h3 := h1 0 k k' rfl rfl
  omega
theorem deeps_ub : ∀ (ks : List Tr) (d m : Int), (∀ k ∈ ks, k.depth ≤ m) → d ≤ m → Tr.deeps ks d ≤ m
 | [], d, m, _, h => h
 | k :: r, d, m, h, h1 => by
  rw [Tr.deeps]
  refine deeps_ub r _ m (fun x hx => h x (by simp [hx])) ?_
  have := h k (by simp)
  split <;> assumption
theorem depth_kid {k : Tr} (h : k ∈ ks) : k.depth + 1 ≤ (Tr.mk op nm num ks).depth := by
 rw [Tr.depth]
 have := depth_mem 0 h
 omega
structure GoodF (t r : Tr) : Prop where
 cl : r.clean
 sh : r.shaped = true
 st : isStmtB r.op = true
 sz : r.size ≤ t.size
 dp : r.depth ≤ t.depth
theorem block_good : ∀ (ks : List Tr), (∀ t ∈ ks, SFit t ∧ ∀ l, KOk l → isVarP t.op t.nu = false → (t.fold l).2 = 0 → GoodF t (t.fold l).1) → ∀ l, KOk l → (Tr.block ks l).2 = 0 →
 (∀ r ∈ (Tr.block ks l).1, r.clean ∧ r.shaped = true ∧ isStmtB r.op = true ∧ ∃ k ∈ ks, r.depth ≤ k.depth) ∧ Tr.sizes (Tr.block ks l).1 ≤ Tr.sizes ks := by
 intro ks
 induction ks with
 | nil => intro _ l _ _; rw [Tr.block]; exact ⟨by simp, Nat.le_refl _⟩
 | cons t r ih =>
  intro hA l hl h0
  have hI := ih fun x hx => hA x (by simp [hx])
  by_cases hv : isVarP t.op t.nu = true
  · rw [block_param hv] at h0 ⊢
    cases hs : staticV l t with
    | none => rw [hs] at h0; cases h0
    | some v =>
     rw [hs] at h0
     have hvo : ValOk v := by
      obtain ⟨⟨hok, hsh, _, _⟩, _⟩ := hA t (by simp)
      obtain ⟨op, nm, num, ks⟩ := t
      obtain rfl : op = 50 := by
       unfold isVarP at hv
       rw [Bool.and_eq_true] at hv
       simpa [Tr.op] using hv.1
      exact static_ok hl hok hsh hs
     obtain ⟨h1, h2⟩ := hI _ (hl.cons t.nm hvo) h0
     refine ⟨fun x hx => ?_, ?_⟩
     · obtain ⟨h3, h4, h5, k, hk, h6⟩ := h1 x hx
       exact ⟨h3, h4, h5, k, by simp [hk], h6⟩
     · rw [Tr.sizes]
       exact Nat.le_trans h2 (by omega)
  · have hv' : isVarP t.op t.nu = false := by simpa using hv
    rw [Tr.block, if_neg hv] at h0 ⊢
    split
    · rename_i h1
      rw [if_pos h1] at h0
      exact absurd h0 (by simpa using h1)
    · rename_i h1
      rw [if_neg h1] at h0
      split
      · rename_i h2
        rw [if_pos h2] at h0
        exact Y7
      · rename_i h2
        have hg := (hA t (by simp)).2 l hl hv' (by simpa using h1)
        obtain ⟨h3, h4⟩ := hI (hideV t l) (hl.hideV t) (by simpa using h2)
        refine ⟨fun x hx => ?_, ?_⟩
        · rcases List.mem_cons.1 hx with rfl | hx
          · exact ⟨hg.cl, hg.sh, hg.st, t, by simp, hg.dp⟩
          · obtain ⟨h5, h6, h7, k, hk, h8⟩ := h3 x hx
            exact ⟨h5, h6, h7, k, by simp [hk], h8⟩
        · rw [Tr.sizes, Tr.sizes]
          have := hg.sz
          omega
theorem blk_good {knm : ByteArray} {knu : Int} {kks : List Tr} (hA : ∀ t ∈ kks, SFit t ∧ ∀ l, KOk l → isVarP t.op t.nu = false → (t.fold l).2 = 0 → GoodF t (t.fold l).1) {y : KL} (hy : KOk y) (h0 : (Tr.block kks y).2 = 0) :
 GoodF (.mk 66 knm knu kks) (.mk 66 ⟨#[]⟩ 0 (Tr.block kks y).1) := by
 obtain ⟨h1, h2⟩ := block_good kks hA y hy h0
 refine ⟨clean_mk rfl rfl fun k hk => (h1 k hk).1, ?_, rfl, by rw [Tr.size, Tr.size]; omega, ?_⟩
 · rw [Tr.shaped, Tr.shapeds_all, Bool.and_eq_true, Bool.not_eq_true', List.any_eq_false]
   refine ⟨?_, fun k hk => by rw [(h1 k hk).2.1]; decide⟩
   rw [right66, Bool.and_eq_true, everyB_all]
   exact ⟨fun k hk => (h1 k hk).2.2.1, rfl⟩
 · rw [Tr.depth, Tr.depth]
   have h3 := deeps_ub (Tr.block kks y).1 0 (Tr.deeps kks 0) (fun x hx => by
    obtain ⟨k, hk, h4⟩ := (h1 x hx).2.2.2
    have := depth_mem 0 hk
    omega) (Tr.deeps_bd kks 0).1
   omega
end
section
variable {nm : ByteArray} {num : Int}
theorem if_cond {c : Tr} {r : List Tr} (h : (Tr.mk 52 nm num (c :: r)).shaped = true) : isExprB c.op = true := by
 have h1 := (Tr.shaped_mk h).1
 rw [right52, Bool.and_eq_true, Bool.or_eq_true] at h1
 rcases h1.2 with h2 | h2
 · have h3 : kindOk 101 c.op = true := kidsB_at h2 (i := 0) rfl
   exact h3
 · have h3 : kindOk 101 c.op = true := kidsB_at h2 (i := 0) rfl
   exact h3
theorem blk_facts {knm : ByteArray} {knu : Int} {kks : List Tr} (h : (Tr.mk 66 knm knu kks).shaped = true) : knm = ⟨#[]⟩ ∧ knu = 0 := by
 have h1 := (Tr.shaped_mk h).1
 rw [right66, Bool.and_eq_true] at h1
 have h2 := h1.2
 unfold bareB at h2
 rw [Bool.and_eq_true, decide_eq_true_eq] at h2
 exact ⟨h2.1, by simpa [Tr.nu] using h2.2⟩
variable {l : KL}
theorem part_of (hl : KOk l) {c : Tr} {r : List Tr} (hok : c.Ok) (hsh : c.shaped = true) (h : isV (v0 (Tr.values l (c :: r)) 0) 2 = true) : part (Tr.values l (c :: r)) = 1 ∨ part (Tr.values l (c :: r)) = 2 := by
 have h1 : v0 (Tr.values l (c :: r)) 0 = c.value l := rfl
 unfold part
 rw [h1] at h ⊢
 cases hv : c.value l with
 | none => rw [hv] at h; cases h
 | some v =>
  rw [hv] at h
  have h2 : v.op = 2 := by simpa [isV] using h
  rcases (value_ok l hl _ c (Nat.le_refl _) hok hsh v hv).num h2 with h3 | h3
  · right; show 2 - v.nu = 2; omega
  · left; show 2 - v.nu = 1; omega
theorem kbl_getD {ks : List Tr} {i : Nat} {k : Tr} (h : ks[i]? = some k) : (Tr.kblocks ks l).getD i ([], 0) = Tr.block k.kids l := by rw [kblocks_get ks l i h, Tr.kblock_kids]
theorem fold_good : ∀ (n : Nat) (t : Tr), t.size ≤ n → SFit t → ∀ l, KOk l → isVarP t.op t.nu = false → (t.fold l).2 = 0 → GoodF t (t.fold l).1 := by
 intro n
 induction n with
 | zero => intro t h; exact absurd t.size_pos (by omega)
 | succ n ih =>
  intro t hsz hf l hl hv h0
  obtain ⟨op, nm, num, ks⟩ := t
  obtain ⟨hok, hsh, hst, hlen⟩ := hf
  replace hst : isStmtB op = true := hst
  replace hv : isVarP op num = false := hv
  obtain ⟨hr, hks⟩ := Tr.shaped_mk hsh
  have hkd : ∀ k ∈ ks, k.size ≤ n := fun k hk => by
   have := Tr.size_mem hk
   rw [Tr.size] at hsz
   omega
  have hkok := Tr.kids_ok hok
  replace hkok : ∀ k ∈ ks, k.Ok := hkok
  obtain ⟨_, hkl⟩ := hlen.mk'
  -- the Kids of a block among the Kids
  have hblk : ∀ k ∈ ks, k.op = 66 → ∀ y, KOk y → (Tr.block k.kids y).2 = 0 → GoodF k (.mk 66 ⟨#[]⟩ 0 (Tr.block k.kids y).1) := fun k hk hk66 y hy hb => by
   have h1 := hkok k hk
   have h2 := hks k hk
   have h3 := hkl k hk
   have h4 := hkd k hk
   obtain ⟨kop, knm, knu, kks⟩ := k
   obtain rfl : kop = 66 := hk66
   have hfit := SFit.kid h1 h2 h3
   exact blk_good (fun t ht => ⟨hfit t ht, fun l hl hv h0 => ih t (by
    have := Tr.size_mem ht
    rw [Tr.size] at h4
    omega) (hfit t ht) l hl hv h0⟩) hy hb
  rw [Tr.fold] at h0 ⊢
  split
  · rename_i hA
    rw [if_pos hA] at h0
    rw [Bool.and_eq_true] at hA
    obtain rfl : op = 52 := by simpa using hA.1
    obtain ⟨c, r, rfl, hl3⟩ := if_facts hsh
    have hp := part_of hl (hkok c (by simp)) (hks c (by simp)) hA.2
    split
    · rename_i hB
      rw [if_pos hB] at h0
      have hB' : part (Tr.values l (c :: r)) < ((c :: r).length : Int) := by simpa using hB
      obtain ⟨k, hk⟩ : ∃ k, (c :: r)[(part (Tr.values l (c :: r))).toNat]? = some k := ⟨_, gE (by omega)⟩
      have hk66 : k.op = 66 := by simpa using if_blocks hsh hk (by omega)
      rw [kbl_getD hk] at h0 ⊢
      split
      · rename_i hC
        rw [if_pos hC] at h0
        exact absurd h0 (by simpa using hC)
      · rename_i hC
        have hg := hblk k (mG hk) hk66 l hl (by simpa using hC)
        have hm := mG hk
        have hz := Tr.size_mem hm
        have hd := depth_kid (op := 52) (nm := nm) (num := num) hm
        refine ⟨hg.cl, hg.sh, rfl, ?_, ?_⟩
        · have := hg.sz
          show (Tr.mk 66 ⟨#[]⟩ 0 (Tr.block k.kids l).1).size ≤ (Tr.mk 52 nm num (c :: r)).size
          have he : (Tr.mk 52 nm num (c :: r)).size = 1 + Tr.sizes (c :: r) := by rw [Tr.size]
          rw [he]
          omega
        · have := hg.dp
          show (Tr.mk 66 ⟨#[]⟩ 0 (Tr.block k.kids l).1).depth ≤ _
          omega
    · refine ⟨clean_mk rfl rfl (by simp), by rfl, rfl, ?_, ?_⟩
      · have := (Tr.mk 52 nm num (c :: r)).size_pos
        show 1 ≤ _; omega
      · have := (Tr.mk 52 nm num (c :: r)).depth_bd
        show (1 : Int) ≤ _; omega
  · rename_i hA
    rw [if_neg hA] at h0
    split
    · rename_i hB
      rw [if_pos hB] at h0
      obtain rfl : op = 66 := by simpa using hB
      have hfit := SFit.kid hok hsh hlen
      exact blk_good (fun t ht => ⟨hfit t ht, fun l hl hv h0 => ih t (hkd t ht) (hfit t ht) l hl hv h0⟩) hl h0
    · rename_i hB
      rw [if_neg hB] at h0
      have h66 : op ≠ 66 := by simpa using hB
      have hlb : KOk (if loopsB op num ks.length = true then bindK (ks.take num.toNat) l else l) := KOk.ite (hl.bind _) hl
      generalize (if loopsB op num ks.length = true then bindK (ks.take num.toNat) l else l) = lb at hlb h0 ⊢
      split
      · rename_i hC
        rw [if_pos hC] at h0
        exact absurd h0 (by simpa using hC)
      · rename_i hC
        have hC0 : (Tr.bodies ks lb (Tr.puts op num ks l 0 l ks)).2 = 0 := by simpa using hC
        have hbg := bodies_get ks _ _ (puts_len op num ks l ks 0 l) hC0
        generalize hout : (Tr.bodies ks lb (Tr.puts op num ks l 0 l ks)).1 = ks' at hbg ⊢
        obtain ⟨hbl, hb⟩ := hbg
        have hkind := stmt_kid hst h66 hr
        -- each Kid
        have hK : ∀ (i : Nat) (k k' : Tr), ks[i]? = some k → ks'[i]? = some k' → (KR k k' ∧ (keepsB op num ks.length i k = true → k.op = 4 → k' = k)) ∧ k'.clean ∧ k'.shaped = true ∧ k'.size ≤ k.size ∧ k'.depth ≤ k.depth := fun i k k' hk hk' => by
         have hm := mG hk
         obtain ⟨h1, h2⟩ := hb i k k' hk hk'
         by_cases hk66 : k.op = 66
         · obtain ⟨h3, rfl⟩ := h2 hk66
           rw [Tr.kblock_kids] at h3 ⊢
           have hg := hblk k hm hk66 lb hlb h3
           exact ⟨⟨.inl ⟨hk66.symm, fun h => absurd hk66 h⟩, fun _ h => absurd hk66 (by omega)⟩, hg.cl, hg.sh, hg.sz, hg.dp⟩
         · have hns : NS k.op := (hkind k hm).resolve_left hk66
           obtain ⟨x, K, h3, h4, h5⟩ := puts_get hl ks 0 l hl i k' (h1 hk66)
           obtain rfl : k = x := by rw [hk] at h3; exact Option.some.inj h3
           rcases h5 with rfl | ⟨h5, rfl⟩
           · exact ⟨⟨.inl ⟨rfl, fun _ => rfl⟩, fun _ _ => rfl⟩, pure_clean _ _ (Nat.le_refl _) (hks _ hm) hns, hks _ hm, Nat.le_refl _, Int.le_refl _⟩
           · obtain ⟨h6, h7, h8⟩ := put_ns h4 (hks k hm) (hkok k hm) hns
             rw [Nat.zero_add] at h5
             exact ⟨⟨put_KR h4 k, fun h => absurd h (by rw [h5]; decide)⟩, pure_clean _ _ (Nat.le_refl _) h8 ((put_KR h4 k).ns hns), h8, by omega, by omega⟩
        have hmem : ∀ k' ∈ ks', ∃ k ∈ ks, k'.clean ∧ k'.shaped = true ∧ k'.depth ≤ k.depth := fun k' hk' => by
         obtain ⟨i, hi⟩ := List.getElem?_of_mem hk'
         obtain ⟨k, hk⟩ := get_of hbl hi
         obtain ⟨_, h2, h3, _, h5⟩ := hK i k k' hk hi
         exact ⟨k, mG hk, h2, h3, h5⟩
        have hif : ifB op ks' = false := by
         unfold ifB
         by_cases h52 : op = 52
         · subst h52
           obtain ⟨c, r, rfl, hl3⟩ := if_facts hsh
           have hce := if_cond hsh
           rw [show ((52 : Int) == 52) = true from rfl, Bool.true_and] at hA ⊢
           match ks', hbl with
           | c' :: r', _ =>
           have h1 := (hb 0 c c' rfl rfl).1 (by have := (show NS c.op from .inl hce).ne; omega)
           rw [puts_cons] at h1
           have hlo : ∀ n, loopsB 52 num n = false := fun n => loops_no (by decide)
           have h2 : (stepT 52 num (c :: r) l 0 l c).1 = c.put l := by
            unfold stepT keepsB
            rw [hlo, if_neg (by simp), if_neg (by simp)]
           rw [h2] at h1
           obtain rfl : c.put l = c' := by simpa using h1
           obtain ⟨_, _, _, _, _, h3, _⟩ := put_facts hl _ c (Nat.le_refl _) (hks c (by simp)) (hkok c (by simp)) (.inl hce)
           rw [show v0 (Tr.values [] (c.put l :: r')) 0 = (c.put l).value [] from rfl, h3]
           have hA2 : isV (v0 (Tr.values l (c :: r)) 0) 2 = false := by simpa using hA
           exact hA2
         · rw [beq_eq_false_iff_ne.2 h52]; rfl
        refine ⟨clean_mk hv hif fun k hk => by obtain ⟨_, _, h, _⟩ := hmem k hk; exact h, ?_, hst, ?_, ?_⟩
        · rw [Tr.shaped, Tr.shapeds_all, Bool.and_eq_true, Bool.not_eq_true', List.any_eq_false]
          refine ⟨right_stmt hst hr ⟨hbl, fun i k k' h1 h2 => (hK i k k' h1 h2).1⟩, fun k hk => ?_⟩
          obtain ⟨_, _, _, h, _⟩ := hmem k hk
          rw [h]; decide
        · rw [Tr.size, Tr.size]
          have := sizes_le ks ks' hbl fun i k k' h1 h2 => (hK i k k' h1 h2).2.2.2.1
          omega
        · rw [Tr.depth, Tr.depth]
          have := deeps_ub ks' 0 (Tr.deeps ks 0) (fun k' hk' => by
           obtain ⟨k, hk, _, _, h⟩ := hmem k' hk'
           have := depth_mem 0 hk
           omega) (Tr.deeps_bd ks 0).1
          omega
def Hid (l : KL) : Prop := ∀ x ∈ l, x.2 = none
theorem Hid.nil : Hid [] := fun x hx => by cases hx
theorem Hid.hide (h : Hid l) (nm : ByteArray) : Hid (hideK nm l) := fun x hx => by
 rcases List.mem_cons.1 hx with rfl | hx
 · rfl
 · exact h x hx
theorem Hid.hideV (h : Hid l) (k : Tr) : Hid (hideV k l) := by
 unfold Go.Proofs.YtklkbfpjimeaoaaGreat.hideV
 split
 · exact h.hide _
 · exact h
theorem Hid.bind : ∀ (ks : List Tr) {l : KL}, Hid l → Hid (bindK ks l)
 | [], _, h => h
 | k :: r, l, h => by
  show Hid (bindK r (hideK k.nm l))
  exact Hid.bind r (h.hide _)
theorem Hid.ok (h : Hid l) : KOk l := fun x hx t ht => by rw [h x hx] at ht; cases ht
theorem Hid.find : ∀ {l : KL}, Hid l → findK nm l = none
 | [], _ => rfl
 | x :: r, h => by
  rw [findK]
  split
  · exact h x (by simp)
  · exact Hid.find fun y hy => h y (by simp [hy])
variable {op : Int}
theorem Hid.step {all : List Tr} {inner : KL} (hl : Hid l) (hi : Hid inner) (i : Nat) (k : Tr) : Hid (stepT op num all l i inner k).2 := by
 unfold stepT
 split
 · exact hi.hideV k
 · split
   · exact hl.hideV k
   · exact hi.hideV k
theorem put_hid : ∀ (n : Nat) (t : Tr), t.size ≤ n → ∀ l, Hid l → t.put l = t := by
 intro n
 induction n with
 | zero => intro t h; exact absurd t.size_pos (by omega)
 | succ n ih =>
  intro t hsz l hl
  obtain ⟨op, nm, num, ks⟩ := t
  have hkd : ∀ k ∈ ks, k.size ≤ n := fun k hk => by
   have := Tr.size_mem hk
   rw [Tr.size] at hsz
   omega
  have hps : ∀ (r : List Tr), (∀ k ∈ r, k.size ≤ n) → ∀ (i : Nat) (inner : KL), Hid inner → Tr.puts op num ks l i inner r = r := by
   intro r
   induction r with
   | nil => intro _ i inner _; rw [Tr.puts]
   | cons k r ih2 =>
    intro hr i inner hi
    rw [puts_cons, ih2 (fun x hx => hr x (by simp [hx])) (i + 1) _ (hl.step hi i k)]
    have : (stepT op num ks l i inner k).1 = k := by
     unfold stepT
     split
     · rfl
     · split
       · exact ih k (hr k (by simp)) _ (hi.bind _)
       · exact ih k (hr k (by simp)) _ hi
    rw [this]
  rw [Tr.put]
  split
  · rw [hl.find]
  · split
    · rfl
    · rw [hps ks hkd 0 l hl]
theorem puts_hid {all : List Tr} (hl : Hid l) : ∀ (r : List Tr) (i : Nat) (inner : KL), Hid inner → Tr.puts op num all l i inner r = r := by
 intro r
 induction r with
 | nil => intro i inner _; rw [Tr.puts]
 | cons k r ih2 =>
  intro i inner hi
  rw [puts_cons, ih2 (i + 1) _ (hl.step hi i k)]
  have : (stepT op num all l i inner k).1 = k := by
   unfold stepT
   split
   · rfl
   · split
     · exact put_hid _ k (Nat.le_refl _) _ (hi.bind _)
     · exact put_hid _ k (Nat.le_refl _) _ hi
  rw [this]
theorem clean_kid {ks : List Tr} (h : (Tr.mk op nm num ks).clean) : isVarP op num = false ∧ ifB op ks = false ∧ ∀ k ∈ ks, k.clean := by
 obtain ⟨h1, h2⟩ := h
 rw [Tr.parB_mk, Bool.or_eq_false_iff, List.any_eq_false] at h1
 rw [Tr.knB_mk, Bool.or_eq_false_iff, List.any_eq_false] at h2
 exact ⟨h1.1, h2.1, fun k hk => ⟨by simpa using h1.2 k hk, by simpa using h2.2 k hk⟩⟩
theorem block_same : ∀ (ks : List Tr), (∀ t ∈ ks, t.clean ∧ ∀ l, Hid l → t.fold l = (t, 0)) → ∀ l, Hid l → Tr.block ks l = (ks, 0) := by
 intro ks
 induction ks with
 | nil => intro _ l _; rw [Tr.block]
 | cons t r ih =>
  intro hA l hl
  obtain ⟨h1, h2⟩ := hA t (by simp)
  have hv : isVarP t.op t.nu = false := by
   obtain ⟨op, nm, num, ks⟩ := t
   exact (clean_kid h1).1
  rw [Tr.block, hv, if_neg (by decide), h2 l hl, if_neg (by simp), ih (fun x hx => hA x (by simp [hx])) _ (hl.hideV t), if_neg (by simp)]
theorem bodies_same {lb : KL} : ∀ (ks : List Tr), (∀ k ∈ ks, k.op = 66 → .mk 66 ⟨#[]⟩ 0 k.kids = k ∧ Tr.block k.kids lb = (k.kids, 0)) → Tr.bodies ks lb ks = (ks, 0) := by
 intro ks
 induction ks with
 | nil => intro _; rw [Tr.bodies]
 | cons k r ih =>
  intro h
  rw [Tr.bodies]
  have hI := ih fun x hx => h x (by simp [hx])
  simp only [List.tail_cons, List.headD_cons, hI]
  by_cases h66 : k.op = 66
  · obtain ⟨h1, h2⟩ := h k (by simp) h66
    rw [Tr.kblock_kids, h2, if_neg (by simpa using h66), if_neg (by simp), h1]
  · rw [if_pos (by simpa using h66)]
theorem fold_same : ∀ (n : Nat) (t : Tr), t.size ≤ n → SFit t → t.clean → ∀ l, Hid l → t.fold l = (t, 0) := by
 intro n
 induction n with
 | zero => intro t h; exact absurd t.size_pos (by omega)
 | succ n ih =>
  intro t hsz hf hc l hl
  obtain ⟨op, nm, num, ks⟩ := t
  obtain ⟨hok, hsh, hst, hlen⟩ := hf
  obtain ⟨hr, hks⟩ := Tr.shaped_mk hsh
  obtain ⟨hv, hif, hkc⟩ := clean_kid hc
  have hkd : ∀ k ∈ ks, k.size ≤ n := fun k hk => by
   have := Tr.size_mem hk
   rw [Tr.size] at hsz
   omega
  have hkok : ∀ k ∈ ks, k.Ok := Tr.kids_ok hok
  obtain ⟨_, hkl⟩ := hlen.mk'
  have hA : (op == 52 && isV (v0 (Tr.values l ks) 0) 2) = false := by
   by_cases h52 : op = 52
   · subst h52
     obtain ⟨c, r, rfl, _⟩ := if_facts hsh
     have hce := if_cond hsh
     obtain ⟨_, _, _, _, _, h3, _⟩ := put_facts hl.ok _ c (Nat.le_refl _) (hks c (by simp)) (hkok c (by simp)) (.inl hce)
     rw [put_hid _ c (Nat.le_refl _) l hl] at h3
     unfold ifB at hif
     rw [show v0 (Tr.values l (c :: r)) 0 = c.value l from rfl, ← h3]
     exact hif
   · rw [beq_eq_false_iff_ne.2 h52]; rfl
  rw [Tr.fold, hA, if_neg (by decide)]
  split
  · rename_i hB
    obtain rfl : op = 66 := by simpa using hB
    have hfit := SFit.kid hok hsh hlen
    obtain ⟨rfl, rfl⟩ := blk_facts hsh
    rw [block_same ks (fun t ht => ⟨hkc t ht, fun l hl => ih t (hkd t ht) (hfit t ht) (hkc t ht) l hl⟩) l hl]
  · have hlb : Hid (if loopsB op num ks.length = true then bindK (ks.take num.toNat) l else l) := by
     split
     · exact hl.bind _
     · exact hl
    generalize (if loopsB op num ks.length = true then bindK (ks.take num.toNat) l else l) = lb at hlb ⊢
    rw [puts_hid hl ks 0 l hl, bodies_same ks fun k hk h66 => ?_, if_neg (by simp)]
    have h1 := hkok k hk
    have h2 := hks k hk
    have h3 := hkl k hk
    have h4 := hkd k hk
    have h5 := hkc k hk
    obtain ⟨kop, knm, knu, kks⟩ := k
    obtain rfl : kop = 66 := h66
    have hfit := SFit.kid h1 h2 h3
    obtain ⟨rfl, rfl⟩ := blk_facts h2
    refine ⟨rfl, block_same kks (fun t ht => ⟨(clean_kid h5).2.2 t ht, fun l hl => ih t ?_ (hfit t ht) ((clean_kid h5).2.2 t ht) l hl⟩) lb hlb⟩
    have := Tr.size_mem ht
    rw [Tr.size] at h4
    omega
end
end Go.Proofs.YtklkbfpjimeaoaaGreat
