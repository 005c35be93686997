import Derived.Test.YtklkbfpjimeaoaaM27
import Derived.Test.YtklkbfpjimeaoaaM25
import Derived.Test.YtklkbfpjimeaoaaM17
/- Contracts of functions. Conditions: none. -/
set_option linter.unusedSimpArgs false
set_option linter.unusedVariables false
set_option maxRecDepth 20000
namespace Go.Proofs.Ytklkbfpjimeaoaa
open Go Go.Proofs.Ytklkbfpjimeaoaa.E
section
theorem methR_le (nm : ByteArray) : (methR nm).1 ≤ 2 := by
 have hall : (opTab.all fun x => decide (x.2.2.2 ≤ 2)) = true := by decide
 unfold methR
 split
 · rename_i x hx
   exact oR (List.all_eq_true.1 hall x (List.mem_of_find?_eq_some hx))
 · decide
variable {nm : ByteArray}
theorem kids_expr {op : Int} {num : Int} {ks : List Tr} (he : isExprB op = true) (hn : op ≠ 1 ∧ op ≠ 2 ∧ op ≠ 4 ∧ op ≠ 13 ∧ op ≠ 16 ∧ op ≠ 17) (hr : rightB (.mk op nm num ks) = true) : ∀ k ∈ ks, isExprB k.op = true := by
 have ho : op = 5 ∨ op = 6 ∨ op = 7 ∨ op = 8 ∨ op = 9 ∨ op = 10 ∨ op = 11 ∨ op = 12 ∨ op = 14 ∨ op = 15 ∨ op = 18 ∨ op = 19 := by
  unfold isExprB at he
  simp only [Bool.and_eq_true, decide_eq_true_eq, bne_iff_ne, ne_eq] at he
  omega
 have e1 : ∀ i, i < (⟨#[101]⟩ : ByteArray).size → (((⟨#[101]⟩ : ByteArray)[i]!).toNat : Int) = 101 := by decide
 have e2 : ∀ i, i < (⟨#[101, 101]⟩ : ByteArray).size → (((⟨#[101, 101]⟩ : ByteArray)[i]!).toNat : Int) = 101 := by decide
 have e3 : ∀ i, i < (⟨#[101, 101, 101]⟩ : ByteArray).size → (((⟨#[101, 101, 101]⟩ : ByteArray)[i]!).toNat : Int) = 101 := by decide
 rcases ho with rfl | rfl | rfl | rfl | rfl | rfl | rfl | rfl | rfl | rfl | rfl | rfl
 · rw [right5, Bool.and_eq_true] at hr; exact kidsE hr.2 e1
 · rw [right6, Bool.and_eq_true] at hr; exact kidsE hr.2 e2
 · rw [right7, Bool.and_eq_true] at hr; exact kidsE hr.2 e2
 · rw [right8, Bool.and_eq_true] at hr; exact kidsE hr.2 e2
 · rw [right9, Bool.and_eq_true] at hr; exact kidsE hr.2 e2
 · rw [right10, Bool.and_eq_true, Bool.or_eq_true] at hr
   rcases hr.2 with h | h
   · exact kidsE h e1
   · exact kidsE h e2
 · rw [right11] at hr
   split at hr
   · rw [Bool.and_eq_true] at hr; exact kidsE hr.2 e2
   · rw [Bool.and_eq_true] at hr; exact kidsE hr.2 e1
 · rw [right12, Bool.and_eq_true, Bool.or_eq_true] at hr
   rcases hr.2 with h | h
   · exact kidsE h e2
   · exact kidsE h e3
 · rw [right14, Bool.and_eq_true] at hr; exact kidsE hr.2 e1
 · rw [right15] at hr
   simp only [Bool.and_eq_true, decide_eq_true_eq] at hr
   obtain ⟨⟨h0, _⟩, hk⟩ := hr
   have h2 := methR_le nm
   have hm : ((methR nm).1 + 1).toNat = 1 ∨ ((methR nm).1 + 1).toNat = 2 ∨ ((methR nm).1 + 1).toNat = 3 := by omega
   rcases hm with h | h | h
   · rw [h] at hk; exact kidsE hk (by decide)
   · rw [h] at hk; exact kidsE hk (by decide)
   · rw [h] at hk; exact kidsE hk (by decide)
 · rw [right18, Bool.and_eq_true] at hr; exact kidsE hr.2 e1
 · rw [right19, Bool.and_eq_true] at hr; exact kidsE hr.2 e3
structure Nm.Bd (n : Nm) : Prop where
 ls : ∀ x ∈ n.ls, x.ty.size ≤ 1000000
 g : ∀ x ∈ n.g, x.ty.size ≤ 1000000
 p : ∀ q ∈ n.p.procs, q.result.nm.size ≤ 1000000
mutual
/-- Whether an expression uses a name. -/
def Tr.emp : Tr → ByteArray → Bool
 | .mk op nm _ ks, s => (op == 4 && decide (nm = s)) || Tr.empL ks s
def Tr.empL : List Tr → ByteArray → Bool
 | [], _ => false
 | k :: r, s => k.emp s || Tr.empL r s
end
theorem Tr.empL_of {k : Tr} {s : ByteArray} (h : k.emp s = true) : ∀ {ks : List Tr}, k ∈ ks → Tr.empL ks s = true
 | x :: r, hm => by
  rw [Tr.empL]
  rcases List.mem_cons.1 hm with rfl | hm
  · rw [h]; rfl
  · rw [Tr.empL_of h hm, Bool.or_true]
def UBd (n : Nm) (t : Tr) : Prop := (∀ s, t.emp s = true → ∀ x, lookN n s = some x → x.ty.size ≤ 1000000) ∧ ∀ q ∈ n.p.procs, q.result.nm.size ≤ 1000000
variable {n : Nm}
theorem UBd.kid {op : Int} {num : Int} {ks : List Tr} {k : Tr} (h : UBd n (.mk op nm num ks)) (hk : k ∈ ks) : UBd n k :=
 ⟨fun s hs x hx => h.1 s (by rw [Tr.emp, Tr.empL_of hs hk, Bool.or_true]) x hx, h.2⟩
theorem findL_mem : ∀ {ls : List Lc} {x : Lc} {r : List Lc}, findL nm ls = x :: r → x ∈ ls
 | [], x, r, h => by cases h
 | y :: t, x, r, h => by
  rw [findL] at h
  split at h
  · injection h with h _; subst h; simp
  · exact List.mem_cons_of_mem _ (findL_mem h)
theorem lookN_sz (hb : n.Bd) {s : ByteArray} {x : Gv} (h : lookN n s = some x) : x.ty.size ≤ 1000000 := by
 unfold lookN at h
 split at h
 · rename_i y r hf
   injection h with h
   subst h
   exact hb.ls y (findL_mem hf)
 · exact hb.g x (List.mem_of_find?_eq_some h)
theorem Nm.Bd.u (h : n.Bd) (t : Tr) : UBd n t := ⟨fun _ _ _ hx => lookN_sz h hx, h.p⟩
theorem callT_sz (hb : ∀ q ∈ n.p.procs, q.result.nm.size ≤ 1000000) {nm : ByteArray} {b : Bool} {l : List ByteArray} {s : ByteArray} (h : callT n.p nm b l = .ok s) : s.size ≤ 1000000 := by
 unfold callT at h
 split at h
 · cases h
 · split at h
   · cases h
   · rename_i q hq
     unfold callQ at h
     repeat' split at h
     all_goals first | (cases h; done) | (injection h with h; subst h; exact hb q (mG hq)) | fail
theorem kidsT_sz : ∀ {ks : List Tr} {l : List ByteArray}, (∀ k ∈ ks, ∀ s, typeT n k false = .ok s → s.size ≤ 1000000) → kidsT n ks = .ok l → ∀ t ∈ l, t.size ≤ 1000000
 | [], l, _, h, t, ht => by rw [kidsT] at h; injection h with h; subst h; cases ht
 | k :: r, l, ih, h, t, ht => by
  rw [kidsT] at h
  cases h1 : typeT n k false with
  | error e => rw [h1] at h; cases h
  | ok s =>
   cases h2 : kidsT n r with
   | error e => rw [h1, h2] at h; cases h
   | ok l' =>
    rw [h1, h2] at h
    injection h with h
    subst h
    rcases List.mem_cons.1 ht with rfl | ht
    · exact ih k (by simp) _ h1
    · exact kidsT_sz (fun k hk => ih k (by simp [hk])) h2 t ht
theorem typeT_sz : ∀ (sz : Nat) (t : Tr), t.size ≤ sz → UBd n t → ∀ b s, typeT n t b = .ok s → s.size ≤ 1000000 := by
 intro sz
 induction sz with
 | zero => intro t h; exact absurd t.size_pos (by omega)
 | succ sz ih =>
  intro t hsz hb b s h
  obtain ⟨op, nm, num, ks⟩ := t
  have hkd : ∀ k ∈ ks, k.size ≤ sz := fun k hk => by
   have := Tr.size_mem hk
   rw [Tr.size] at hsz
   omega
  rw [typeT] at h
  split at h
  · injection h with h; subst h; decide
  split at h
  · injection h with h; subst h; decide
  split at h
  · rename_i _ _ h4
    cases hf : lookN n nm with
    | none => rw [hf] at h; cases h
    | some x => rw [hf] at h; injection h with h; subst h; exact hb.1 nm (by rw [Tr.emp, h4]; simp) x hf
  split at h
  · cases ha : argsT n ks with
    | error e => rw [ha] at h; cases h
    | ok l => rw [ha] at h; exact callT_sz hb.2 h
  · cases ha : kidsT n ks with
    | error e => rw [ha] at h; cases h
    | ok l =>
     rw [ha] at h
     have hs := opT_size op nm l (kidsT_sz (fun k hk s hs => ih k (hkd k hk) (hb.kid hk) false s hs) ha)
     replace h : opE (opT op nm l) = .ok s := h
     unfold opE at h
     split at h
     · cases h
     · injection h with h; subst h; exact hs
theorem c80n (n : Nm) (hn : n.Ok) : ∀ (sz : Nat) (t : Tr), t.size ≤ sz → UBd n t → t.Ok → t.size ≤ 1000000 → t.shaped = true → isExprB t.op = true → ∀ b, Px Try.prog 36 [n.d, t.d, .bool b] (outT (typeT n t b)) := by
 intro sz
 induction sz with
 | zero => intro t h; exact absurd t.size_pos (by omega)
 | succ sz ih =>
  intro t hsz hb hok hM hsh he b
  obtain ⟨op, nm, num, ks⟩ := t
  have hkd : ∀ k ∈ ks, k.size ≤ sz ∧ k.size ≤ 1000000 := fun k hk => by
   have := Tr.size_mem hk
   rw [Tr.size] at hsz hM
   omega
  have hkl : ks.length ≤ 1000000 := by
   have := Tr.len_sizes ks
   rw [Tr.size] at hM
   omega
  rw [Tr.shaped, Bool.and_eq_true, Tr.shapeds_all] at hsh
  obtain ⟨hr, hks⟩ := hsh
  have hksh : ∀ k ∈ ks, k.shaped = true := fun k hk => by
   cases hq : k.shaped with
   | true => rfl
   | false =>
    have : (ks.any fun k => !k.shaped) = true := List.any_eq_true.2 ⟨k, hk, by rw [hq]; rfl⟩
    rw [this] at hks; cases hks
  cases hok with | mk o1 o2 o3 o4 o5 =>
  replace he : isExprB op = true := he
  rw [Tr.d_mk, typeT]
  by_cases h1 : op = 1 ∨ op = 16 ∨ op = 17
  · rw [if_pos h1]
    rcases h1 with rfl | rfl | rfl
    · exact c80l1 n nm num ks b
    · exact c80l16 n nm num ks b
    · exact c80l17 n nm num ks b
  rw [if_neg h1]
  by_cases h2 : op = 2
  · rw [if_pos h2]; subst h2; exact c80l2 n nm num ks b
  rw [if_neg h2]
  by_cases h4 : op = 4
  · rw [if_pos h4]; subst h4; exact c80name n hn nm o2 num ks b
  rw [if_neg h4]
  by_cases h13 : op = 13
  · rw [if_pos h13]; subst h13
    rw [right13, Bool.and_eq_true] at hr
    refine c80call n hn nm num ks b hkl fun k hk hk30 => ih k (hkd k hk).1 (hb.kid hk) (o5 k hk) (hkd k hk).2 (hksh k hk) ?_ false
    have h := hr.1
    unfold everyB at h
    cases hq : isExprB k.op with
    | true => rfl
    | false =>
     have : (ks.any fun k => !(isExprB k.op || k.op == 30)) = true := List.any_eq_true.2 ⟨k, hk, by rw [hq]; simpa using hk30⟩
     rw [this] at h; cases h
  rw [if_neg h13]
  have hne : op ≠ 1 ∧ op ≠ 2 ∧ op ≠ 4 ∧ op ≠ 13 ∧ op ≠ 16 ∧ op ≠ 17 := ⟨fun h => h1 (.inl h), h2, h4, h13, fun h => h1 (.inr (.inl h)), fun h => h1 (.inr (.inr h))⟩
  refine c80o n op nm num ks b (beq_eq_false_iff_ne.2 hne.1) (beq_eq_false_iff_ne.2 hne.2.2.2.2.1) (beq_eq_false_iff_ne.2 hne.2.2.2.2.2) (beq_eq_false_iff_ne.2 h2) (beq_eq_false_iff_ne.2 h4) (beq_eq_false_iff_ne.2 h13) hkl (fun k hk => ih k (hkd k hk).1 (hb.kid hk) (o5 k hk) (hkd k hk).2 (hksh k hk) (kids_expr he hne hr k hk) false) fun l hl hkt => ?_
  have h := c146 op nm num ks l hl (kidsT_sz (fun k hk s hs => typeT_sz k.size k (Nat.le_refl _) (hb.kid hk) false s hs) hkt) hkl o2 he hne hr
  rw [Tr.d_mk] at h
  exact h
end
section
theorem c78 (op : Int) (nm : ByteArray) (num : Int) (ks : List Tr) : Pf Try.prog 34 [.agg [.int .i64 op, .str nm, .int .i64 num, .sl (ks.map Tr.d)]] (.d (.bool (andI num 4 != 0))) := by
 refine pfb Try.func34 Try.ntmps34 Try.results34 (fun S0 O0 w0 m0 hm0 => ?_)
 repeat' first | refine st (by exact rfl) ?_ | fail
 exact Y0
end
section
def hideP (p : ByteArray → Bool) (nm : ByteArray) : ByteArray → Bool := fun s => p s && !decide (nm = s)
def hideA (p : ByteArray → Bool) : List Tr → ByteArray → Bool
 | [] => p
 | k :: r => hideA (hideP p k.nm) r
def addP (p : ByteArray → Bool) (nm : ByteArray) (out : List ByteArray) : List ByteArray := if p nm = true then (if hasB out nm = true then out else out ++ [nm]) else out
def freeA (F : Tr → (ByteArray → Bool) → List ByteArray → List ByteArray) : List Tr → (ByteArray → Bool) → List ByteArray → List ByteArray
 | [], _, out => out
 | k :: r, p, out => freeA F r p (F k p out)
def freeL (F : Tr → (ByteArray → Bool) → List ByteArray → List ByteArray) : List Tr → (ByteArray → Bool) → List ByteArray → List ByteArray
 | [], _, out => out
 | k :: r, p, out => freeL F r (if k.op = 50 then hideP p k.nm else p) (F k p out)
def loopC (op num : Int) (n : Nat) : Bool := ((decide (op = 54) || decide (op = 55)) || decide (op = 56)) && (decide (0 ≤ num) && (decide (num ≤ 2) && decide (num + 2 ≤ (n : Int))))
def freeF : Nat → Tr → (ByteArray → Bool) → List ByteArray → List ByteArray
 | 0, _, _, out => out
 | z + 1, .mk op nm num ks, p, out =>
  if op = 4 then addP p nm out
  else if loopC op num ks.length = true then
   (match ks[num.toNat]?, ks[num.toNat + 1]? with
   | some e, some b => freeA (freeF z) (ks.drop (num.toNat + 2)) p (freeF z b (hideA p (ks.take num.toNat)) (freeF z e p out))
   | _, _ => out)
  else freeL (freeF z) ks p out
theorem free_uses : ∀ (z : Nat) (t : Tr) (p : ByteArray → Bool) (out : List ByteArray), t.size ≤ z → t.shaped = true → (isExprB t.op = true ∨ t.op = 30) → (∀ s ∈ out, s ∈ freeF z t p out) ∧ ∀ s, p s = true → t.emp s = true → s ∈ freeF z t p out := by
 intro z
 induction z with
 | zero => intro t _ _ h; exact absurd t.size_pos (by omega)
 | succ z ih =>
  intro t p out hsz hsh he
  obtain ⟨op, nm, num, ks⟩ := t
  have hkd : ∀ k ∈ ks, k.size ≤ z := fun k hk => by
   have := Tr.size_mem hk
   rw [Tr.size] at hsz
   omega
  rw [Tr.shaped, Bool.and_eq_true, Tr.shapeds_all] at hsh
  obtain ⟨hr, hks⟩ := hsh
  have hksh : ∀ k ∈ ks, k.shaped = true := fun k hk => by
   cases hq : k.shaped with
   | true => rfl
   | false =>
    have : (ks.any fun k => !k.shaped) = true := List.any_eq_true.2 ⟨k, hk, by rw [hq]; rfl⟩
    rw [this] at hks; cases hks
  replace he : isExprB op = true ∨ op = 30 := he
  have hno : ∀ {x : Int}, (ks.length : Int) == 0 → ks = [] := fun h => List.eq_nil_of_length_eq_zero (by have := oR (show decide ((ks.length : Int) = 0) = true by simpa using h); omega)
  by_cases h4 : op = 4
  · subst h4
    rw [right4, Bool.and_eq_true] at hr
    have hk0 := hno (x := 0) hr.2
    subst hk0
    rw [freeF, if_pos rfl, addP]
    refine ⟨fun s hs => ?_, fun s hp hu => ?_⟩
    · split
      · split
        · exact hs
        · simp [hs]
      · exact hs
    · rw [Tr.emp, Tr.empL] at hu
      have hn : nm = s := by simpa using hu
      subst hn
      rw [if_pos hp]
      split
      · rename_i h
        unfold hasB at h
        obtain ⟨x, hx, he⟩ := List.any_eq_true.1 h
        have := oR he
        subst this
        exact hx
      · simp
  · have hl : loopC op num ks.length = false := by
     unfold loopC
     have : ((decide (op = 54) || decide (op = 55)) || decide (op = 56)) = false := by
      unfold isExprB at he
      simp only [Bool.and_eq_true, decide_eq_true_eq, bne_iff_ne, ne_eq] at he
      simp only [Bool.or_eq_false_iff, decide_eq_false_iff_not]
      omega
     rw [this]; rfl
    have hke : ∀ k ∈ ks, isExprB k.op = true ∨ k.op = 30 := by
     by_cases h13 : op = 13
     · subst h13
       rw [right13, Bool.and_eq_true] at hr
       intro k hk
       have h := hr.1
       unfold everyB at h
       have h5 : (isExprB k.op || k.op == 30) = true := by
        cases hq : (isExprB k.op || k.op == 30) with
        | true => rfl
        | false =>
         have : (ks.any fun k => !(isExprB k.op || k.op == 30)) = true := List.any_eq_true.2 ⟨k, hk, by rw [hq]; rfl⟩
         rw [this] at h; cases h
       rw [Bool.or_eq_true] at h5
       rcases h5 with h5 | h5
       · exact .inl h5
       · exact .inr (by simpa using h5)
     · by_cases h30 : op = 30
       · subst h30
         rw [right30] at hr
         have hk0 : ks = [] := by
          unfold typedB at hr
          simp only [Bool.and_eq_true] at hr
          apply hno (x := 0)
          simp_all
         subst hk0
         intro k hk; cases hk
       · have he' : isExprB op = true := by rcases he with h | h; exact h; exact absurd h h30
         by_cases h1 : op = 1
         · subst h1; rw [right1, Bool.and_eq_true] at hr; have := hno (x := 0) hr.2; subst this; intro k hk; cases hk
         by_cases h2 : op = 2
         · subst h2; rw [right2, Bool.and_eq_true] at hr; have := hno (x := 0) hr.2; subst this; intro k hk; cases hk
         by_cases h16 : op = 16
         · subst h16; rw [right16, Bool.and_eq_true] at hr; have := hno (x := 0) hr.2; subst this; intro k hk; cases hk
         by_cases h17 : op = 17
         · subst h17; rw [right17, Bool.and_eq_true] at hr; have := hno (x := 0) hr.2; subst this; intro k hk; cases hk
         exact fun k hk => .inl (kids_expr he' ⟨h1, h2, h4, h13, h16, h17⟩ hr k hk)
    rw [freeF, if_neg h4, if_neg (by rw [hl]; decide)]
    have key : ∀ (l : List Tr) (o : List ByteArray), (∀ k ∈ l, k ∈ ks) → (∀ s ∈ o, s ∈ freeL (freeF z) l p o) ∧ ∀ s, p s = true → Tr.empL l s = true → s ∈ freeL (freeF z) l p o := by
     intro l
     induction l with
     | nil => intro o _; exact ⟨fun s hs => hs, fun s _ hu => by rw [Tr.empL] at hu; cases hu⟩
     | cons k r ihl =>
      intro o hm
      have hk := hm k (.head _)
      have h50 : ¬ k.op = 50 := by
       have := hke k hk
       unfold isExprB at this
       simp only [Bool.and_eq_true, decide_eq_true_eq, bne_iff_ne, ne_eq] at this
       omega
      obtain ⟨a1, a2⟩ := ih k p o (hkd k hk) (hksh k hk) (hke k hk)
      obtain ⟨b1, b2⟩ := ihl (freeF z k p o) (fun k' hk' => hm k' (.tail _ hk'))
      rw [freeL, if_neg h50]
      refine ⟨fun s hs => b1 s (a1 s hs), fun s hp hu => ?_⟩
      rw [Tr.empL, Bool.or_eq_true] at hu
      rcases hu with hu | hu
      · exact b1 s (a2 s hp hu)
      · exact b2 s hp hu
    obtain ⟨k1, k2⟩ := key ks out (fun _ h => h)
    refine ⟨k1, fun s hp hu => k2 s hp ?_⟩
    rw [Tr.emp] at hu
    simpa [h4] using hu
theorem findL_ne {s : ByteArray} {x : Lc} (r : List Lc) (h : x.nm ≠ s) : findL s (x :: r) = findL s r := by rw [findL, if_neg h]
def pH (locals : List ByteArray) (hid : List Lc) : ByteArray → Bool := fun s => hasB locals s && (match findL s hid with | [] => true | _ :: _ => false)
theorem pH_hide (locals : List ByteArray) (hid : List Lc) (x : Lc) : pH locals (x :: hid) = hideP (pH locals hid) x.nm := by
 funext s
 unfold pH hideP
 by_cases h : x.nm = s
 · rw [findL, if_pos h]
   simp [h]
 · rw [findL_ne hid h]
   simp [h]
theorem pH_nil (locals : List ByteArray) : pH locals [] = hasB locals := by
 funext s
 unfold pH
 rw [findL]; simp
end
section
theorem gv_get {l : List Gv} {z : Nat} {x : Gv} (h : l[z]? = some x) : (l.map Gv.d)[z]? = some (.agg [.str x.nm, .str x.ty, .bool x.con]) := by rw [List.getElem?_map, h]; rfl
end
section
def toLc (x : Gv) : Lc := ⟨x.nm, x.ty, x.con, 0, 0⟩
end
section
def outR : Except Int ByteArray → PV
 | .ok s => .tup [.d (.str s), .d (.int .i64 0)]
 | .error e => .tup [.d (.str ⟨#[]⟩), .d (.int .i64 e)]
variable {n : Nm}
theorem kidsT_err : ∀ {ks : List Tr} {e : Int}, (∀ k ∈ ks, ∀ e, typeT n k false = .error e → e ≠ 0) → kidsT n ks = .error e → e ≠ 0
 | [], _, _, h => by rw [kidsT] at h; cases h
 | k :: r, e, ih, h => by
  rw [kidsT] at h
  cases h1 : typeT n k false with
  | error e' => rw [h1] at h; injection h with h; subst h; exact ih k (.head _) _ h1
  | ok t =>
   rw [h1] at h
   cases h2 : kidsT n r with
   | error e' => rw [h2] at h; injection h with h; subst h; exact kidsT_err (fun k hk => ih k (.tail _ hk)) h2
   | ok l => rw [h2] at h; cases h
theorem argsT_err : ∀ {ks : List Tr} {e : Int}, (∀ k ∈ ks, ∀ e, typeT n k false = .error e → e ≠ 0) → argsT n ks = .error e → e ≠ 0
 | [], _, _, h => by rw [argsT] at h; cases h
 | k :: r, e, ih, h => by
  rw [argsT] at h
  split at h
  · injection h with h; subst h; decide
  cases h1 : typeT n k false with
  | error e' => rw [h1] at h; injection h with h; subst h; exact ih k (.head _) _ h1
  | ok t =>
   rw [h1] at h
   cases h2 : argsT n r with
   | error e' => rw [h2] at h; injection h with h; subst h; exact argsT_err (fun k hk => ih k (.tail _ hk)) h2
   | ok l => rw [h2] at h; cases h
theorem callT_err {p : Pg} {nm : ByteArray} {b : Bool} {l : List ByteArray} {e : Int} (h : callT p nm b l = .error e) : e ≠ 0 := by
 unfold callT at h
 split at h
 · injection h with h; subst h; decide
 · split at h
   · injection h with h; subst h; decide
   · unfold callQ at h
     repeat' split at h
     all_goals first | (injection h with h; subst h; decide) | (cases h; done) | fail
theorem opE_err {t : ByteArray} {e : Int} (h : opE t = .error e) : e ≠ 0 := by
 unfold opE at h
 split at h
 · injection h with h; subst h; decide
 · cases h
theorem typeT_err : ∀ (sz : Nat) (t : Tr), t.size ≤ sz → ∀ b e, typeT n t b = .error e → e ≠ 0 := by
 intro sz
 induction sz with
 | zero => intro t h; exact absurd t.size_pos (by omega)
 | succ sz ih =>
  intro t hsz b e h
  obtain ⟨op, nm, num, ks⟩ := t
  have hkd : ∀ k ∈ ks, ∀ e, typeT n k false = .error e → e ≠ 0 := fun k hk e he => by
   have := Tr.size_mem hk
   rw [Tr.size] at hsz
   exact ih k (by omega) false e he
  rw [typeT] at h
  split at h
  · cases h
  split at h
  · cases h
  split at h
  · cases hf : lookN n nm with
    | none => rw [hf] at h; injection h with h; subst h; decide
    | some x => rw [hf] at h; cases h
  split at h
  · cases ha : argsT n ks with
    | error e' => rw [ha] at h; injection h with h; subst h; exact argsT_err hkd ha
    | ok l => rw [ha] at h; exact callT_err h
  · cases ha : kidsT n ks with
    | error e' => rw [ha] at h; injection h with h; subst h; exact kidsT_err hkd ha
    | ok l => rw [ha] at h; exact opE_err h
end
section
def Pg.some (p : Pg) (f : Tr → Bool) : Bool := p.globals.any f || p.procs.any fun q => q.body.any f
end
section
def KR (k k' : Tr) : Prop := (k'.op = k.op ∧ (k.op ≠ 66 → k'.nm = k.nm)) ∨ (k.op = 4 ∧ (k'.op = 1 ∨ k'.op = 2))
theorem KR.kind {k k' : Tr} (h : KR k k') {c : Int} (hc : c = 110 → k'.op = k.op) (hk : kindOk c k.op = true) : kindOk c k'.op = true := by
 rcases h with h | h
 · rw [h.1]; exact hk
 · by_cases h110 : c = 110
   · rw [hc h110]; exact hk
   · by_cases h101 : c = 101
     · subst h101
       rcases h.2 with h2 | h2 <;> rw [h2] <;> rfl
     · by_cases h98 : c = 98
       · subst h98
         rw [h.1] at hk
         exact absurd hk (by decide)
       · unfold kindOk
         rw [if_neg h101, if_neg h98, if_neg h110]
theorem KR.expr {k k' : Tr} (h : KR k k') (hk : isExprB k.op = true) : isExprB k'.op = true := by
 rcases h with h | ⟨_, h | h⟩
 · rw [h.1]; exact hk
 · rw [h]; rfl
 · rw [h]; rfl
variable {ks ks' : List Tr}
theorem kidsB_mono {s : ByteArray} (hl : ks'.length = ks.length) (h : kidsB ks s = true)
 (hk : ∀ (i : Nat) (k k' : Tr), ks[i]? = some k → ks'[i]? = some k' → kindOk ((s[i]!).toNat : Nat) k.op = true → kindOk ((s[i]!).toNat : Nat) k'.op = true) : kidsB ks' s = true := by
 have h2 := kidsB_len h
 unfold kidsB
 rw [Bool.and_eq_true, decide_eq_true_eq, List.all_eq_true]
 refine ⟨by rw [hl]; exact h2, ?_⟩
 rintro ⟨k', i⟩ hx
 have hx' := List.mem_zipIdx_iff_getElem?.1 hx
 have hi := (lG hx')
 have hk2 : ks[i]? = some (ks[i]'(by omega)) := gE (by omega)
 exact hk i _ k' hk2 hx' (kidsB_at h hk2)
theorem everyB_all {p : Int → Bool} : everyB p ks = true ↔ ∀ k ∈ ks, p k.op = true := by
 unfold everyB
 rw [Bool.not_eq_true', List.any_eq_false]
 constructor
 · intro h k hk; simpa using h k hk
 · intro h k hk; rw [h k hk]; decide
theorem get_of (hl : ks'.length = ks.length) {i : Nat} {k' : Tr} (h : ks'[i]? = some k') : ∃ k, ks[i]? = some k := by
 have hi := (lG h)
 exact ⟨_, gE (by omega)⟩
theorem everyB_mono {p : Int → Bool} (hl : ks'.length = ks.length) (h : everyB p ks = true)
 (hk : ∀ (i : Nat) (k k' : Tr), ks[i]? = some k → ks'[i]? = some k' → p k.op = true → p k'.op = true) : everyB p ks' = true := by
 rw [everyB_all] at h ⊢
 intro k' hk'
 obtain ⟨i, hi⟩ := List.getElem?_of_mem hk'
 obtain ⟨k, hk2⟩ := get_of hl hi
 exact hk i k k' hk2 hi (h k (mG hk2))
theorem varTail_iff {nu : Int} {l : List Tr} : varTail nu l = true ↔ (andI nu 2 ≠ 0 ∧ ∃ k, l = [k] ∧ isExprB k.op = true) ∨ (andI nu 2 = 0 ∧ l = []) := by
 unfold varTail
 by_cases h : andI nu 2 = 0
 · rw [if_neg (by simpa using h)]
   simp [h]
 · rw [if_pos (by simpa using h)]
   cases l with
   | nil => simp [h]
   | cons k r => cases r with
    | nil => simp [h]
    | cons k2 r => simp [h]; intro _; omega
def KRs (op num : Int) (ks ks' : List Tr) : Prop := ks'.length = ks.length ∧ ∀ (i : Nat) (k k' : Tr), ks[i]? = some k → ks'[i]? = some k' → KR k k' ∧ (keepsB op num ks.length i k = true → k.op = 4 → k' = k)
theorem KRs.kids {op num : Int} (h : KRs op num ks ks') {s : ByteArray} (hs : ∀ i, i < s.size → ((s[i]!).toNat : Int) ≠ 110) (hk : kidsB ks s = true) : kidsB ks' s = true :=
 kidsB_mono h.1 hk fun i k k' h1 h2 h3 => (h.2 i k k' h1 h2).1.kind (fun h4 => absurd h4 (hs i (by have := kidsB_len hk; have := (lG h1); omega))) h3
theorem KRs.every {op num : Int} (h : KRs op num ks ks') {p : Int → Bool} (hp : ∀ k k', KR k k' → p k.op = true → p k'.op = true) (hk : everyB p ks = true) : everyB p ks' = true :=
 everyB_mono h.1 hk fun i k k' h1 h2 h3 => hp k k' (h.2 i k k' h1 h2).1 h3
theorem n2 : ∀ i, i < (⟨#[101, 101]⟩ : ByteArray).size → (((⟨#[101, 101]⟩ : ByteArray)[i]!).toNat : Int) ≠ 110 := by decide
theorem m1 : ∀ i, i < (⟨#[101]⟩ : ByteArray).size → (((⟨#[101]⟩ : ByteArray)[i]!).toNat : Int) = 101 ∨ (((⟨#[101]⟩ : ByteArray)[i]!).toNat : Int) = 98 ∨ (((⟨#[101]⟩ : ByteArray)[i]!).toNat : Int) = 110 := by decide
theorem m2 : ∀ i, i < (⟨#[101, 101]⟩ : ByteArray).size → (((⟨#[101, 101]⟩ : ByteArray)[i]!).toNat : Int) = 101 ∨ (((⟨#[101, 101]⟩ : ByteArray)[i]!).toNat : Int) = 98 ∨ (((⟨#[101, 101]⟩ : ByteArray)[i]!).toNat : Int) = 110 := by decide
end
section
def declA (n : Nm) (x : Tr) : Except Int ByteArray :=
 if x.op = 31 then (match x.kids with
  | k :: _ => (typeT n k false).bind fun d => if isDomB d = true then .ok (sArray ++ d.extract 6 d.size) else .error 13
  | [] => .error 13)
 else if basicB x.nm = true then (if isArrB x.nm = true then .error 13 else .ok x.nm) else .error 153
def fitB (t u : ByteArray) : Bool := ((((!decide (u = sVoid)) && !decide (u = sSync)) && !decide (u = sAtomic)) && !isArrB u) && (decide (t = ⟨#[]⟩) || decide (t = u))
def declZ (n : Nm) (num : Int) (t : ByteArray) (ks : List Tr) : Except Int ByteArray :=
 if (andI num 2 == 0) = true then (if (!decide (t = sRange) && !isDomB t) = true then .ok t else .error 13)
 else match ks with
  | k :: _ => (typeT n k false).bind fun u => if fitB t u = true then .ok u else .error 13
  | [] => .error 13
def declK (n : Nm) (num : Int) : List Tr → Except Int ByteArray
 | x :: r => (declA n x).bind fun t => declZ n num t r
 | [] => .error 13
def declT (n : Nm) : Tr → Except Int ByteArray
 | .mk _ _ num ks => if (andI num 8 == 0) = true then (if (andI num 1 != 0) = true then declK n num ks else declZ n num ⟨#[]⟩ ks) else .error 153
def RestOk (n : Nm) (num : Int) (r : List Tr) : Prop := ∀ b, andI num 2 ≠ 0 → ∃ k r', r = k :: r' ∧ Px Try.prog 36 [n.d, k.d, .bool b] (outT (typeT n k b))
variable {n : Nm}
theorem declZ_no {num : Int} {t : ByteArray} {ks : List Tr} (h : (andI num 2 == 0) = true) : declZ n num t ks = if (!decide (t = sRange) && !isDomB t) = true then .ok t else .error 13 := by unfold declZ; exact if_pos h
theorem declZ_k {num : Int} {t : ByteArray} {k : Tr} {r : List Tr} (h : ¬ (andI num 2 == 0) = true) : declZ n num t (k :: r) = (typeT n k false).bind fun u => if fitB t u = true then .ok u else .error 13 := by unfold declZ; exact if_neg h
theorem declA_arr {xop : Int} {xnm : ByteArray} {xnu : Int} {xks : List Tr} {k : Tr} {s : List Tr} (h : xop = 31) (hk : xks = k :: s) : declA n (.mk xop xnm xnu xks) = (typeT n k false).bind fun d => if isDomB d = true then .ok (sArray ++ d.extract 6 d.size) else .error 13 := by
 subst h; subst hk; rfl
theorem dom_sz {d : ByteArray} (h : isDomB d = true) : d.size = 7 := by
 unfold isDomB at h
 rw [Bool.or_eq_true, decide_eq_true_eq, decide_eq_true_eq] at h
 rcases h with rfl | rfl <;> rfl
theorem var_kids {v : Tr} (hsh : v.shaped = true) (h50 : v.op = 50) : (andI v.nu 1 ≠ 0 → ∃ x r, v.kids = x :: r ∧ (x.op = 31 ∨ x.op = 30) ∧ (andI v.nu 2 ≠ 0 → ∃ k, r = [k] ∧ isExprB k.op = true)) ∧ (andI v.nu 1 = 0 → andI v.nu 2 ≠ 0 → ∃ k, v.kids = [k] ∧ isExprB k.op = true) := by
 obtain ⟨op, nm, num, ks⟩ := v
 have hop : op = 50 := h50
 subst hop
 rw [Tr.shaped, Bool.and_eq_true] at hsh
 have h := hsh.1
 rw [right50, varB] at h
 split at h
 · cases h
 · refine ⟨fun h1 => ?_, fun h1 h2 => ?_⟩
   · replace h1 : andI num 1 ≠ 0 := h1
     rw [if_pos (by simpa using h1)] at h
     cases ks with
     | nil => cases h
     | cons x r =>
      rw [varTy, Bool.and_eq_true] at h
      refine ⟨x, r, rfl, ?_, fun h2 => ?_⟩
      · have := h.1
        unfold varType at this
        by_cases h31 : x.op = 31
        · exact .inl h31
        · by_cases h30 : x.op = 30
          · exact .inr h30
          · simp [h31, h30] at this
      · obtain ⟨_, h3⟩ := h
        rw [varTail_iff] at h3
        rcases h3 with ⟨_, k, hk, he⟩ | ⟨h3, _⟩
        · exact ⟨k, hk, he⟩
        · exact absurd h3 h2
   · replace h1 : andI num 1 = 0 := h1
     rw [if_neg (by simpa using h1), varTail_iff] at h
     rcases h with ⟨_, k, hk, he⟩ | ⟨h3, _⟩
     · exact ⟨k, hk, he⟩
     · exact absurd h3 h2
set_option maxHeartbeats 4000000 in
theorem c77 (n : Nm) (op : Int) (nm : ByteArray) (num : Int) (ks : List Tr) (h8 : RestOk n num ks ∨ andI num 1 ≠ 0)
 (h1 : andI num 1 ≠ 0 → ∃ x r, ks = x :: r ∧ (x.op = 31 → ∃ k s, x.kids = k :: s ∧ Px Try.prog 36 [n.d, k.d, .bool false] (outT (typeT n k false))) ∧ RestOk n num r) :
 Px Try.prog 33 [n.d, .agg [.int .i64 op, .str nm, .int .i64 num, .sl (ks.map Tr.d)]] (outT (declT n (.mk op nm num ks))) := by
 refine pxB Try.func33 Try.ntmps33 Try.results33 (fun S0 O0 w0 m0 hm0 => ?_)
 repeat' first | refine st (by exact rfl) ?_ | fail
 by_cases h8b : (andI num 8 == 0) = true
 case neg =>
  have hD : declT n (.mk op nm num ks) = .error 153 := by unfold declT; exact if_neg h8b
  refine clp (u := wrongW 153) (by exact rfl) (x119 153 (by simpa using h8b)) ?_
  repeat' first | refine st (by exact rfl) ?_ | fail
  exact gPan (by rw [hD]; rfl)
 have hD8 : declT n (.mk op nm num ks) = (if (andI num 1 != 0) = true then declK n num ks else declZ n num ⟨#[]⟩ ks) := by unfold declT; exact if_pos h8b
 refine cl (r := .tup []) (by exact rfl) (q119 153 h8b) ?_
 repeat' (fail_if_success with_reducible refine ar 4 ?_); first | refine st (by exact rfl) ?_ | fail
 repeat' first | refine st (by exact rfl) ?_ | fail
 refine gCutF (α := ByteArray × List Tr) (fun y => ⟨[(2, .ref 0 0), (3, .ref 1 0), (5, .d (.str y.1)), (6, .d (.sl (y.2.map Tr.d)))], [[.d (.sl (n.p.globals.map Tr.d)), .d (.sl (n.p.procs.map Pc.d)), .d (.map (gvs n.g)), .d (locD n.ls)], [.d (.int .i64 op), .d (.str nm), .d (.int .i64 num), .d (.sl (ks.map Tr.d))]]⟩) (fun y => declT n (.mk op nm num ks) = declZ n num y.1 y.2 ∧ RestOk n num y.2) (fun Q' hn' he hr hp => ?_) (fun y hy => ?_)
 · refine cd (by exact rfl) (fun hb => ?_) (fun hb => ?_)
   · obtain ⟨x, r, hx, h31, hro⟩ := h1 (by simpa using hb)
     have hDx : declT n (.mk op nm num ks) = (declA n x).bind fun t => declZ n num t r := by rw [hD8, if_pos hb, hx]; rfl
     obtain ⟨xop, xnm, xnu, xks⟩ := x
     have hxd : (ks.map Tr.d)[(0 : Int).toNat]? = some (.agg [.int .i64 xop, .str xnm, .int .i64 xnu, .sl (xks.map Tr.d)]) := by rw [hx, List.map_cons, Tr.d_mk]; rfl
     repeat' first | refine st (by exact rfl) ?_ | fail
     refine el (by exact rfl) hxd ?_ (by decide)
     repeat' first | refine st (by exact rfl) ?_ | fail
     refine qu (by exact rfl) (by exact ⟨⟨by decide, by simp [hx]; omega⟩, Tr.ds_cells ks⟩) ?_
     repeat' first | refine st (by exact rfl) ?_ | fail
     have hdr : List.drop (1 : Int).toNat (ks.map Tr.d) = r.map Tr.d := by rw [hx]; rfl
     refine cd (by exact rfl) (fun hb3 => ?_) (fun hb3 => ?_)
     · have h31' : xop = 31 := by simpa using hb3
       obtain ⟨k, s, hks, q⟩ := h31 h31'
       have hks : xks = k :: s := hks
       have hkd : (xks.map Tr.d)[(0 : Int).toNat]? = some k.d := by rw [hks]; rfl
       obtain ⟨kop, knm, knu, kks, hka⟩ := k.d_agg
       rw [hka] at q hkd
       have hA : declA n (.mk xop xnm xnu xks) = (typeT n k false).bind fun d => if isDomB d = true then .ok (sArray ++ d.extract 6 d.size) else .error 13 := declA_arr h31' hks
       repeat' first | refine st (by exact rfl) ?_ | fail
       cases ht : typeT n k false with
       | error e =>
        rw [ht] at q
        refine opp 5 (hc := ?_)
        refine Z74 ?_;refine Z74 ?_;refine Z74 ?_
        refine oip (hd := hkd) (hc := ?_)
        refine Z74 ?_
        refine opx (hcl := q) (hg := fun s' => ?_)
        repeat' first | refine st (by exact rfl) ?_ | fail
        refine Z59 ?_
        repeat' first | refine st (by exact rfl) ?_ | fail
        exact gPan (by rw [hDx, hA, ht]; rfl)
       | ok d =>
        rw [ht] at q
        refine Z20 ?_;refine Z95 ?_;refine Z3 ?_
        refine oi (hd := hkd) (hc := ?_)
        refine Z3 ?_
        refine oc (hcl := q.inl) (hc := ?_)
        refine Z88 ?_
        repeat' first | refine st (by exact rfl) ?_ | refine cl (by exact rfl) (c141 d) ?_ | fail
        by_cases hd : isDomB d = true
        · have hds := dom_sz hd
          refine cl (r := .tup []) (by exact rfl) (q119 13 hd) ?_
          repeat' first | refine st (by exact rfl) ?_ | fail
          refine qu (by exact rfl) (by omega) (qu (by exact rfl) ?_ ?_)
          · rw [ByteArray.size_extract, hds]; decide
          · repeat' first | refine st (by exact rfl) ?_ | fail
            refine toL (hn' _ (sArray ++ d.extract 6 d.size, r) ⟨by rw [hDx, hA, ht]; simp only [Except.bind, if_pos hd], hro⟩ ?_)
            rw [← hdr]
            exact le_of
        · refine clp (u := wrongW 13) (by exact rfl) (x119 13 (by simpa using hd)) ?_
          repeat' first | refine st (by exact rfl) ?_ | fail
          refine Z59 ?_
          repeat' first | refine st (by exact rfl) ?_ | fail
          exact gPan (by rw [hDx, hA, ht]; simp only [Except.bind, if_neg hd]; rfl)
     · have h31' : ¬ xop = 31 := by simpa using hb3
       have hA : declA n (.mk xop xnm xnu xks) = if basicB xnm = true then (if isArrB xnm = true then .error 13 else .ok xnm) else .error 153 := by
        unfold declA
        exact if_neg h31'
       repeat' first | refine st (by exact rfl) ?_ | refine cl (by exact rfl) (c142 xnm) ?_ | fail
       by_cases hba : basicB xnm = true
       case neg =>
        refine clp (u := wrongW 153) (by exact rfl) (x119 153 (by simpa using hba)) ?_
        repeat' first | refine st (by exact rfl) ?_ | fail
        refine Z59 ?_
        repeat' first | refine st (by exact rfl) ?_ | fail
        exact gPan (by rw [hDx, hA, if_neg hba]; rfl)
       refine cl (r := .tup []) (by exact rfl) (q119 153 hba) ?_
       repeat' first | refine st (by exact rfl) ?_ | refine cl (by exact rfl) (c143 xnm) ?_ | fail
       by_cases har : isArrB xnm = true
       · refine clp (u := wrongW 13) (by exact rfl) (x119 13 (by simp [har])) ?_
         repeat' first | refine st (by exact rfl) ?_ | fail
         refine Z59 ?_
         repeat' first | refine st (by exact rfl) ?_ | fail
         exact gPan (by rw [hDx, hA, if_pos hba, if_pos har]; rfl)
       refine cl (r := .tup []) (by exact rfl) (q119 13 (by simp [har])) ?_
       repeat' first | refine st (by exact rfl) ?_ | fail
       refine toL (hn' _ (xnm, r) ⟨by rw [hDx, hA, if_pos hba, if_neg har]; rfl, hro⟩ ?_)
       rw [← hdr]
       exact le_of
   · have hb0 : ¬ (andI num 1 != 0) = true := by rw [hb]; decide
     have hro : RestOk n num ks := by
      rcases h8 with h | h
      · exact h
      · exact absurd h (by simpa using hb0)
     repeat' first | refine st (by exact rfl) ?_ | fail
     exact toL (hn' _ (⟨#[]⟩, ks) ⟨by rw [hD8, if_neg hb0], hro⟩ le_of)
 · obtain ⟨t, r⟩ := y
   obtain ⟨hDr, hro⟩ := hy
   dsimp only at hDr hro
   repeat' first | refine st (by exact rfl) ?_ | fail
   refine cd (by exact rfl) (fun hb => ?_) (fun hb => ?_)
   · repeat' first | refine st (by exact rfl) ?_ | refine clg (by exact rfl) (fun _ => c141 t) ?_ | fail
     by_cases hf : (!decide (t = sRange) && !isDomB t) = true
     · refine cl (r := .tup []) (by exact rfl) (q119 13 hf) ?_
       repeat' first | refine st (by exact rfl) ?_ | fail
       exact enx (by exact rfl) (by rw [hDr, declZ_no hb, if_pos hf]; rfl)
     · refine clp (u := wrongW 13) (by exact rfl) (x119 13 (eq_false_of_ne_true hf)) ?_
       repeat' first | refine st (by exact rfl) ?_ | fail
       exact gPan (by rw [hDr, declZ_no hb, if_neg hf]; rfl)
   · have hb0 : ¬ (andI num 2 == 0) = true := by rw [hb]; decide
     obtain ⟨k, r', rfl, q⟩ := hro false (by simpa using hb0)
     have hkd : ((k :: r').map Tr.d)[(0 : Int).toNat]? = some k.d := rfl
     obtain ⟨kop, knm, knu, kks, hka⟩ := k.d_agg
     rw [hka] at q hkd
     repeat' first | refine st (by exact rfl) ?_ | fail
     cases ht : typeT n k false with
     | error e =>
      rw [ht] at q
      refine opp 4 (hc := ?_)
      refine Z74 ?_;refine Z74 ?_
      refine oip (hd := hkd) (hc := ?_)
      refine Z74 ?_
      refine opx (hcl := q) (hg := fun s' => ?_)
      repeat' first | refine st (by exact rfl) ?_ | fail
      exact gPan (by rw [hDr, declZ_k hb0]; simp only [ht, Except.bind, outT])
     | ok u =>
      rw [ht] at q
      refine Z20 ?_;refine Z95 ?_
      refine oi (hd := hkd) (hc := ?_)
      refine Z3 ?_
      refine oc (hcl := q.inl) (hc := ?_)
      refine Z88 ?_
      repeat' first | refine st (by exact rfl) ?_ | refine clg (by exact rfl) (fun _ => c143 u) ?_ | fail
      by_cases hf : fitB t u = true
      · refine cl (r := .tup []) (by exact rfl) (q119 13 hf) ?_
        repeat' first | refine st (by exact rfl) ?_ | fail
        exact enx (by exact rfl) (by rw [hDr, declZ_k hb0]; simp only [ht, Except.bind, if_pos hf, outT])
      · refine clp (u := wrongW 13) (by exact rfl) (x119 13 (eq_false_of_ne_true hf)) ?_
        repeat' first | refine st (by exact rfl) ?_ | fail
        exact gPan (by rw [hDr, declZ_k hb0]; simp only [ht, Except.bind, if_neg hf, outT])
theorem c77n (n : Nm) (hn : n.Ok) (hb : n.Bd) (v : Tr) (hok : v.Ok) (hM : v.size ≤ 1000000) (hsh : v.shaped = true) (h50 : v.op = 50) : Px Try.prog 33 [n.d, v.d] (outT (declT n v)) := by
 obtain ⟨f1, f0⟩ := var_kids hsh h50
 have hkid : ∀ {t : Tr}, t.Ok → t.size ≤ 1000000 → t.shaped = true → ∀ k ∈ t.kids, k.Ok ∧ k.size ≤ 1000000 ∧ k.shaped = true := fun {t} ho hm hs k hk => by
  obtain ⟨op, nm, num, ks⟩ := t
  rw [Tr.shaped, Bool.and_eq_true, Tr.shapeds_all] at hs
  cases ho with | mk o1 o2 o3 o4 o5 =>
  refine ⟨o5 k hk, by have := Tr.size_mem (ks := ks) hk; rw [Tr.size] at hm; omega, ?_⟩
  cases hq : k.shaped with
  | true => rfl
  | false =>
   have : (ks.any fun k => !k.shaped) = true := List.any_eq_true.2 ⟨k, hk, by rw [hq]; rfl⟩
   rw [this] at hs; cases hs.2
 have hex : ∀ (k : Tr) (b : Bool), k.Ok ∧ k.size ≤ 1000000 ∧ k.shaped = true → isExprB k.op = true → Px Try.prog 36 [n.d, k.d, .bool b] (outT (typeT n k b)) := fun k b h he => c80n n hn k.size k (Nat.le_refl _) (hb.u k) h.1 h.2.1 h.2.2 he b
 have hkv := hkid hok hM hsh
 obtain ⟨op, nm, num, ks⟩ := v
 rw [Tr.d_mk]
 refine c77 n op nm num ks ?_ fun h1 => ?_
 · by_cases h1 : andI num 1 = 0
   · refine .inl fun b h2 => ?_
     obtain ⟨k, hk, he⟩ := f0 h1 h2
     have hk : ks = [k] := hk
     exact ⟨k, [], hk, hex k b (hkv k (by show k ∈ ks; rw [hk]; simp)) he⟩
   · exact .inr h1
 · obtain ⟨x, r, hx, ho, hr⟩ := f1 h1
   have hx : ks = x :: r := hx
   have hxk := hkv x (by show x ∈ ks; rw [hx]; simp)
   refine ⟨x, r, hx, fun h31 => ?_, fun b h2 => ?_⟩
   · have hxx := hkid hxk.1 hxk.2.1 hxk.2.2
     obtain ⟨xop, xnm, xnu, xks⟩ := x
     have h31 : xop = 31 := h31
     subst h31
     have hs := hxk.2.2
     rw [Tr.shaped, Bool.and_eq_true, right31, Bool.and_eq_true] at hs
     obtain ⟨k, hk⟩ := ln1 (kw1 hs.1.2)
     exact ⟨k, [], hk, hex k false (hxx k (by show k ∈ xks; rw [hk]; simp)) (kidsE hs.1.2 (by decide) k (by rw [hk]; simp))⟩
   · obtain ⟨k, hk, he⟩ := hr h2
     exact ⟨k, [], hk, hex k b (hkv k (by show k ∈ ks; rw [hx, hk]; simp)) he⟩
end
section
variable {n n' : Nm}
theorem kidsT_congr : ∀ {ks : List Tr}, (∀ k ∈ ks, typeT n k false = typeT n' k false) → kidsT n ks = kidsT n' ks
 | [], _ => by rw [kidsT, kidsT]
 | k :: r, h => by rw [kidsT, kidsT, h k (.head _), kidsT_congr fun k' hk => h k' (.tail _ hk)]
theorem argsT_congr : ∀ {ks : List Tr}, (∀ k ∈ ks, typeT n k false = typeT n' k false) → argsT n ks = argsT n' ks
 | [], _ => by rw [argsT, argsT]
 | k :: r, h => by rw [argsT, argsT, h k (.head _), argsT_congr fun k' hk => h k' (.tail _ hk)]
theorem typeT_congr (hp : n.p = n'.p) : ∀ (sz : Nat) (t : Tr), t.size ≤ sz → (∀ s, t.emp s = true → lookE (lookN n s) = lookE (lookN n' s)) → ∀ b, typeT n t b = typeT n' t b := by
 intro sz
 induction sz with
 | zero => intro t h; exact absurd t.size_pos (by omega)
 | succ sz ih =>
  intro t hsz hu b
  obtain ⟨op, nm, num, ks⟩ := t
  have hkd : ∀ k ∈ ks, typeT n k false = typeT n' k false := fun k hk => by
   have := Tr.size_mem hk
   rw [Tr.size] at hsz
   exact ih k (by omega) (fun s hs => hu s (by rw [Tr.emp, Tr.empL_of hs hk, Bool.or_true])) false
  rw [typeT, typeT, kidsT_congr hkd, argsT_congr hkd, hp]
  by_cases h4 : op = 4
  · rw [hu nm (by rw [Tr.emp, h4]; simp)]
  · rw [if_neg (c := op = 4) h4, if_neg (c := op = 4) h4]
def gskip (g : Tr) : Bool := g.op != 50 || nodeE g != 0
def hasG (l : List Gv) (nm : ByteArray) : Bool := l.any fun x => decide (x.nm = nm)
def globC (p : Pg) : List Gv → List Tr → List Gv
 | acc, [] => acc
 | acc, g :: r => if (hasG acc g.nm || gskip g) = true then globC p acc r else match declT ⟨p, acc, []⟩ g with
  | .ok t => globC p (acc ++ [⟨g.nm, t, andI g.nu 4 != 0⟩]) r
  | .error _ => globC p acc r
def findG' (l : List Gv) (s : ByteArray) : Option Gv := l.find? fun x => decide (x.nm = s)
theorem hasG_find (l : List Gv) (s : ByteArray) : hasG l s = (findG' l s).isSome := by
 unfold hasG findG'
 induction l with
 | nil => rfl
 | cons x r ih =>
  rw [List.any_cons, List.find?_cons, ih]
  cases decide (x.nm = s) <;> simp
theorem declT_err {v : Tr} {e : Int} (h : declT n v = .error e) : e ≠ 0 := by
 have ht : ∀ k e, typeT n k false = .error e → e ≠ 0 := fun k e => typeT_err k.size k (Nat.le_refl _) false e
 have hz : ∀ num t r e, declZ n num t r = .error e → e ≠ 0 := fun num t r e h => by
  by_cases h2 : (andI num 2 == 0) = true
  · rw [declZ_no h2] at h
    split at h
    · cases h
    · injection h with h; subst h; decide
  · cases r with
    | nil =>
     rw [show declZ n num t [] = .error 13 from by unfold declZ; exact if_neg h2] at h
     injection h with h; subst h; decide
    | cons k r =>
     rw [declZ_k h2] at h
     cases hk : typeT n k false with
     | error e' => rw [hk] at h; injection h with h; subst h; exact ht k _ hk
     | ok u =>
      rw [hk] at h
      simp only [Except.bind] at h
      split at h
      · cases h
      · injection h with h; subst h; decide
 have ha : ∀ x e, declA n x = .error e → e ≠ 0 := fun x e h => by
  obtain ⟨xop, xnm, xnu, xks⟩ := x
  by_cases h31 : xop = 31
  · cases xks with
    | nil =>
     subst h31
     rw [show declA n (.mk 31 xnm xnu []) = .error 13 from rfl] at h
     injection h with h; subst h; decide
    | cons k s =>
     rw [declA_arr h31 rfl] at h
     cases hkt : typeT n k false with
     | error e' => rw [hkt] at h; injection h with h; subst h; exact ht k _ hkt
     | ok u =>
      rw [hkt] at h
      simp only [Except.bind] at h
      split at h
      · cases h
      · injection h with h; subst h; decide
  · rw [show declA n (.mk xop xnm xnu xks) = if basicB xnm = true then (if isArrB xnm = true then .error 13 else .ok xnm) else .error 153 from by unfold declA; exact if_neg h31] at h
    split at h
    · split at h
      · injection h with h; subst h; decide
      · cases h
    · injection h with h; subst h; decide
 have hk : ∀ num ks e, declK n num ks = .error e → e ≠ 0 := fun num ks e h => by
  cases ks with
  | nil => rw [show declK n num [] = .error 13 from rfl] at h; injection h with h; subst h; decide
  | cons x r =>
   rw [show declK n num (x :: r) = (declA n x).bind fun t => declZ n num t r from rfl] at h
   cases hx : declA n x with
   | error e' => rw [hx] at h; injection h with h; subst h; exact ha x _ hx
   | ok t => rw [hx] at h; exact hz _ _ _ _ h
 obtain ⟨op, nm, num, ks⟩ := v
 rw [show declT n (.mk op nm num ks) = if (andI num 8 == 0) = true then (if (andI num 1 != 0) = true then declK n num ks else declZ n num ⟨#[]⟩ ks) else .error 153 from rfl] at h
 split at h
 · split at h
   · exact hk _ _ _ h
   · exact hz _ _ _ _ h
 · injection h with h; subst h; decide
theorem nodeE_sh {t : Tr} (h : nodeE t = 0) : t.shaped = true := by
 obtain ⟨op, nm, num, ks⟩ := t
 exact nodeE_shaped h
theorem gskip_no {g : Tr} (h : gskip g = false) : g.op = 50 ∧ nodeE g = 0 ∧ g.shaped = true := by
 unfold gskip at h
 rw [Bool.or_eq_false_iff, bne_eq_false_iff_eq, bne_eq_false_iff_eq] at h
 exact ⟨h.1, h.2, nodeE_sh h.2⟩
end
end Go.Proofs.Ytklkbfpjimeaoaa
