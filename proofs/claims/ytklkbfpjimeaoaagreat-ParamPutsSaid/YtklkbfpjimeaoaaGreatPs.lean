/- Contracts of functions. Conditions: none. -/
import Derived.Test.YtklkbfpjimeaoaaGreatPr
namespace Go.Proofs.YtklkbfpjimeaoaaGreat
open Go Go.Proofs.YtklkbfpjimeaoaaGreat.E
theorem all_zip {α : Type} (q : α → Bool) : ∀ (xs : List α), (xs.zipIdx.all fun x => q x.1) = xs.all q := by
  intro xs
  rw [Bool.eq_iff_iff, List.all_eq_true, List.all_eq_true]
  constructor
  · intro h x hx
    obtain ⟨i, hi⟩ := List.getElem?_of_mem hx
    exact h (x, i) (List.mem_zipIdx_iff_getElem?.2 hi)
  · rintro h ⟨x, i⟩ hx
    exact h x (List.mem_of_getElem? (List.mem_zipIdx_iff_getElem?.1 hx))
def allE (ks : List Tr) : Bool := ks.all fun k => isExprB k.op
theorem kidsB_e {s : ByteArray} (hs : ∀ i, i < s.size → s[i]! = 101) (ks : List Tr) : kidsB ks s = (decide (ks.length = s.size) && allE ks) := by
  unfold kidsB
  by_cases h : ks.length = s.size
  · rw [decide_eq_true h, Bool.true_and, Bool.true_and, allE, ← all_zip (fun k : Tr => isExprB k.op)]
    rw [Bool.eq_iff_iff, List.all_eq_true, List.all_eq_true]
    have hk : ∀ x ∈ ks.zipIdx, kindOk ((s[x.2]!).toNat : Nat) x.1.op = isExprB x.1.op := by
      rintro ⟨k, i⟩ hx
      have hi := (List.getElem?_eq_some_iff.1 (List.mem_zipIdx_iff_getElem?.1 hx)).1
      show kindOk ((s[i]!).toNat : Nat) k.op = _
      rw [hs i (by omega)]
      rfl
    constructor
    · intro h x hx; rw [← hk x hx]; exact h x hx
    · intro h x hx; rw [hk x hx]; exact h x hx
  · rw [decide_eq_false h, Bool.false_and, Bool.false_and]
theorem e1s : ∀ i, i < e1.size → e1[i]! = 101 := by decide
theorem e2s : ∀ i, i < ee.size → ee[i]! = 101 := by decide
theorem e3s : ∀ i, i < eee.size → eee[i]! = 101 := by decide
theorem exs (n : Nat) : ∀ i, i < (eee.extract 0 n).size → (eee.extract 0 n)[i]! = 101 := by
  intro i hi
  have h3 : eee.size = 3 := rfl
  rw [ByteArray.size_extract] at hi
  have hlt : i < 3 := by omega
  have hn : i < n := by omega
  have hi' : i < (eee.extract 0 n).size := by rw [ByteArray.size_extract]; exact hi
  rw [getElem!_pos (eee.extract 0 n) i hi', ByteArray.getElem_extract]
  have h := e3s i (by rw [h3]; exact hlt)
  rw [getElem!_pos eee i (by rw [h3]; exact hlt)] at h
  simpa using h
/-- Kids of the same kinds. -/
def Kin (f : Tr → Tr) (ks : List Tr) : Prop := ∀ k ∈ ks, isExprB (f k).op = isExprB k.op ∧ ((f k).op == 30) = (k.op == 30)
theorem Kin.allE {f : Tr → Tr} {ks : List Tr} (h : Kin f ks) : allE (ks.map f) = allE ks := by
  unfold Go.Proofs.YtklkbfpjimeaoaaGreat.allE
  rw [Bool.eq_iff_iff, List.all_map, List.all_eq_true, List.all_eq_true]
  constructor
  · intro h1 k hk; rw [← (h k hk).1]; exact h1 k hk
  · intro h1 k hk; show isExprB (f k).op = true; rw [(h k hk).1]; exact h1 k hk
theorem Kin.kidsB {f : Tr → Tr} {ks : List Tr} (h : Kin f ks) {s : ByteArray} (hs : ∀ i, i < s.size → s[i]! = 101) : kidsB (ks.map f) s = kidsB ks s := by
  rw [kidsB_e hs, kidsB_e hs, h.allE, List.length_map]
theorem Kin.every {f : Tr → Tr} {ks : List Tr} (h : Kin f ks) : everyB (fun op => isExprB op || op == 30) (ks.map f) = everyB (fun op => isExprB op || op == 30) ks := by
  unfold everyB
  rw [List.any_map]
  congr 1
  rw [Bool.eq_iff_iff, List.any_eq_true, List.any_eq_true]
  have he : ∀ k ∈ ks, ((fun k : Tr => !(isExprB k.op || k.op == 30)) ∘ f) k = !(isExprB k.op || k.op == 30) := fun k hk => by
    show (!(isExprB (f k).op || (f k).op == 30)) = _
    rw [(h k hk).1, (h k hk).2]
  constructor
  · rintro ⟨k, hk, h1⟩; exact ⟨k, hk, by rw [← he k hk]; exact h1⟩
  · rintro ⟨k, hk, h1⟩; exact ⟨k, hk, by rw [he k hk]; exact h1⟩
theorem Kin.forms {f : Tr → Tr} {ks : List Tr} (h : Kin f ks) {op num : Int} {nm : ByteArray} {ts : List ByteArray} (hs : ∀ s ∈ ts, ∀ i, i < s.size → s[i]! = 101) : formsB ts (.mk op nm num (ks.map f)) = formsB ts (.mk op nm num ks) := by
  unfold formsB
  rw [Bool.eq_iff_iff, List.any_eq_true, List.any_eq_true]
  constructor
  · rintro ⟨s, h1, h2⟩; exact ⟨s, h1, by rw [Tr.kids_mk] at h2 ⊢; rw [← h.kidsB (hs s h1)]; exact h2⟩
  · rintro ⟨s, h1, h2⟩; exact ⟨s, h1, by rw [Tr.kids_mk] at h2 ⊢; rw [h.kidsB (hs s h1)]; exact h2⟩
theorem Kin.tab {f : Tr → Tr} {ks : List Tr} (h : Kin f ks) {op num : Int} {nm : ByteArray} : ∀ x ∈ shapeTab, isExprB x.1 = true → x.2.ok (.mk op nm num (ks.map f)) = x.2.ok (.mk op nm num ks) := by
  intro x hx he
  simp only [shapeTab, List.mem_cons, List.not_mem_nil, or_false] at hx
  rcases hx with rfl | rfl | rfl | rfl | rfl | rfl | rfl | rfl | rfl | rfl | rfl | rfl | rfl | rfl | rfl | rfl | rfl | rfl | rfl | rfl | rfl | rfl | rfl | rfl | rfl | rfl | rfl | rfl | rfl | rfl | rfl | rfl | rfl <;> first | exact absurd he (by decide) | exact h.forms (by decide) | (show rule154 _ = rule154 _; unfold rule154; rw [Tr.kids_mk, Tr.kids_mk, List.length_map]; rfl)
theorem shGet_tab {op : Int} {s : Sh} (h : shGet op = some s) : ∃ x ∈ shapeTab, x.1 = op ∧ x.2 = s := by
  unfold shGet at h
  cases hf : shapeTab.find? (fun x => decide (x.1 = op)) with
  | none => rw [hf] at h; cases h
  | some x =>
    rw [hf] at h
    injection h with h
    exact ⟨x, List.mem_of_find?_eq_some hf, by simpa using List.find?_some hf, h⟩
theorem ne_of_expr {op k : Int} (ho : isExprB op = true) (hk : isExprB k = false) : (op == k) = false := by
  rw [beq_eq_false_iff_ne]
  rintro rfl
  rw [ho] at hk
  cases hk
theorem Kin.right {f : Tr → Tr} {ks : List Tr} (h : Kin f ks) {op num : Int} {nm : ByteArray} (ho : isExprB op = true) : rightB (.mk op nm num (ks.map f)) = rightB (.mk op nm num ks) := by
  have h2 : otherB (.mk op nm num (ks.map f)) = otherB (.mk op nm num ks) := by
    rw [otherB, otherB, h.every, h.kidsB (exs _), h.kidsB e2s, h.kidsB e1s, List.length_map, ne_of_expr ho (show isExprB 30 = false from rfl), ne_of_expr ho (show isExprB 50 = false from rfl)]
    simp only [Bool.false_eq_true, if_false]
  rw [rightB, rightB, h2]
  cases hs : shGet op with
  | none => rfl
  | some s =>
    obtain ⟨x, hx, rfl, rfl⟩ := shGet_tab hs
    have ht := h.tab (op := x.1) (num := num) (nm := nm) x hx ho
    obtain ⟨xo, nms, nb, g, caps, ok⟩ := x
    dsimp only at ht ⊢
    rw [ht]
theorem allE_mem {ks : List Tr} (h : allE ks = true) : ∀ k ∈ ks, isExprB k.op = true := List.all_eq_true.1 h
theorem forms_kids {ts : List ByteArray} {t : Tr} (hs : ∀ s ∈ ts, ∀ i, i < s.size → s[i]! = 101) (h : formsB ts t = true) : ∀ k ∈ t.kids, isExprB k.op = true := by
  unfold formsB at h
  obtain ⟨s, h1, h2⟩ := List.any_eq_true.1 h
  rw [kidsB_e (hs s h1), Bool.and_eq_true] at h2
  exact allE_mem h2.2
theorem tab_kids : ∀ x ∈ shapeTab, isExprB x.1 = true → ∀ t : Tr, x.2.ok t = true → ∀ k ∈ t.kids, isExprB k.op = true := by
  intro x hx he t ht
  simp only [shapeTab, List.mem_cons, List.not_mem_nil, or_false] at hx
  rcases hx with rfl | rfl | rfl | rfl | rfl | rfl | rfl | rfl | rfl | rfl | rfl | rfl | rfl | rfl | rfl | rfl | rfl | rfl | rfl | rfl | rfl | rfl | rfl | rfl | rfl | rfl | rfl | rfl | rfl | rfl | rfl | rfl | rfl <;> first | exact absurd he (by decide) | exact forms_kids (by decide) ht | (
    replace ht : rule154 t = true := ht
    unfold rule154 at ht
    rw [Bool.and_eq_true, beq_iff_eq] at ht
    have h0 : t.kids = [] := List.length_eq_zero_iff.1 (by omega)
    rw [h0]; simp)
/-- The Kids of an expression's node are expressions or types. -/
theorem expr_kid {op num : Int} {nm : ByteArray} {ks : List Tr} (hr : rightB (.mk op nm num ks) = true) (ho : isExprB op = true) : ∀ k ∈ ks, isExprB k.op = true ∨ k.op = 30 := by
  rw [rightB] at hr
  split at hr
  · rename_i h2
    rw [otherB, ne_of_expr ho (show isExprB 3 = false from rfl), ne_of_expr ho (show isExprB 30 = false from rfl), ne_of_expr ho (show isExprB 50 = false from rfl)] at hr
    simp only [Bool.false_eq_true, if_false] at hr
    split at hr
    · simp only [Bool.and_eq_true, beq_iff_eq] at hr
      have h0 : ks = [] := List.length_eq_zero_iff.1 (by omega)
      rw [h0]; simp
    · split at hr
      · simp only [Bool.and_eq_true] at hr
        intro k hk
        have h3 := hr.2
        unfold everyB at h3
        rw [Bool.not_eq_true', List.any_eq_false] at h3
        have h4 := h3 k hk
        cases he : isExprB k.op with
        | true => exact .inl rfl
        | false => exact .inr (by simpa [he] using h4)
      · split at hr
        · simp only [Bool.and_eq_true] at hr
          rw [kidsB_e (exs _), Bool.and_eq_true] at hr
          exact fun k hk => .inl (allE_mem hr.2.2 k hk)
        · split at hr
          · dsimp only at hr
            split at hr
            · rw [kidsB_e e2s, Bool.and_eq_true, Bool.and_eq_true] at hr
              exact fun k hk => .inl (allE_mem hr.2.2 k hk)
            · rw [kidsB_e e1s] at hr
              simp only [Bool.and_eq_true] at hr
              exact fun k hk => .inl (allE_mem hr.2.2 k hk)
          · cases hr
  · cases hs : shGet op with
    | none => rw [hs] at hr; cases hr
    | some s =>
      rw [hs] at hr
      obtain ⟨x, hx, rfl, rfl⟩ := shGet_tab hs
      have ht := tab_kids x hx ho (.mk x.1 nm num ks)
      obtain ⟨xo, nms, nb, g, caps, ok⟩ := x
      dsimp only at hr ht
      split at hr
      · cases hr
      · rcases nms with _ | y
        · dsimp only at hr
          split at hr
          · cases hr
          · exact fun k hk => .inl (ht hr k hk)
        · dsimp only at hr
          split at hr
          · cases hr
          · exact fun k hk => .inl (ht hr k hk)
theorem type_kids {num : Int} {nm : ByteArray} {ks : List Tr} (hr : rightB (.mk 30 nm num ks) = true) : ks = [] := by
  have h1 : rightB (.mk 30 nm num ks) = typedB (.mk 30 nm num ks) := rfl
  rw [h1, typedB] at hr
  simp only [Bool.and_eq_true, beq_iff_eq] at hr
  exact List.length_eq_zero_iff.1 (by omega)
theorem name_kids {num : Int} {nm : ByteArray} {ks : List Tr} (hr : rightB (.mk 4 nm num ks) = true) : ks = [] := by
  have h1 : rightB (.mk 4 nm num ks) = ((nameB nm && num == 0) && (ks.length : Int) == 0) := rfl
  rw [h1] at hr
  simp only [Bool.and_eq_true, beq_iff_eq] at hr
  exact List.length_eq_zero_iff.1 (by omega)
def EK (op : Int) : Prop := isExprB op = true ∨ op = 30
theorem EK.ne {op k : Int} (h : EK op) (h1 : isExprB k = false) (h2 : k ≠ 30) : (op == k) = false := by
  rcases h with h | rfl
  · exact ne_of_expr h h1
  · rw [beq_eq_false_iff_ne]; omega
theorem puts_map {op num : Int} {all : List Tr} {l : KL} (h : EK op) : ∀ (ks : List Tr) (i : Nat), (∀ k ∈ ks, EK k.op) → Tr.puts op num all l i l ks = ks.map fun k => k.put l := by
  intro ks
  induction ks with
  | nil => intro i _; rw [Tr.puts]; rfl
  | cons k r ih =>
    intro i hk
    have hl : loopsB op num all.length = false := by
      unfold loopsB
      rw [h.ne (k := 54) rfl (by decide), h.ne (k := 55) rfl (by decide), h.ne (k := 56) rfl (by decide)]; rfl
    have hp : keepsB op num all.length i k = false := by
      unfold keepsB
      rw [hl, h.ne (k := 51) rfl (by decide)]; rfl
    rw [Tr.puts, hp, if_neg (by decide), hl, Bool.false_and, if_neg (by decide), (hk k (by simp)).ne (k := 50) rfl (by decide), if_neg (by decide), ih (i + 1) fun x hx => hk x (by simp [hx])]
    rfl
theorem valN_l {l l' : KL} {op num : Int} {nm : ByteArray} {ks : List Tr} {vs : List (Option Tr)} {ss : List SP} (h : op ≠ 4) : valN l op nm num ks vs ss = valN l' op nm num ks vs ss := by
  unfold valN
  rw [show (op == 4) = false from beq_eq_false_iff_ne.2 h]
  rfl
theorem valN_k {l : KL} {op num : Int} {nm : ByteArray} {ks ks' : List Tr} {vs : List (Option Tr)} {ss : List SP} (h : op ≠ 1) (h2 : op ≠ 2) : valN l op nm num ks vs ss = valN l op nm num ks' vs ss := by
  unfold valN
  simp only [show (op == 1 || op == 2) = false from by rw [beq_eq_false_iff_ne.2 h, beq_eq_false_iff_ne.2 h2]; rfl, Bool.false_eq_true, if_false]
theorem sizes_eq : ∀ (ks : List Tr) (f : Tr → Tr), (∀ k ∈ ks, (f k).size = k.size) → Tr.sizes (ks.map f) = Tr.sizes ks
  | [], f, h => rfl
  | k :: r, f, h => by
    rw [List.map_cons, Tr.sizes, Tr.sizes, h k (by simp), sizes_eq r f fun x hx => h x (by simp [hx])]
theorem deeps_eq : ∀ (ks : List Tr) (f : Tr → Tr) (d : Int), (∀ k ∈ ks, (f k).depth = k.depth) → Tr.deeps (ks.map f) d = Tr.deeps ks d
  | [], f, d, h => rfl
  | k :: r, f, d, h => by
    rw [List.map_cons, Tr.deeps, Tr.deeps, h k (by simp), deeps_eq r f _ fun x hx => h x (by simp [hx])]
theorem ValOk.ex {v : Tr} (h : ValOk v) : isExprB v.op = true ∧ (v.op == 30) = false := by
  rcases h with ⟨n, _, rfl⟩ | ⟨b, rfl⟩
  · exact ⟨rfl, rfl⟩
  · exact ⟨rfl, rfl⟩
theorem put_facts {K : KL} (hK : KOk K) : ∀ n (t : Tr), t.size ≤ n → t.shaped = true → t.Ok → EK t.op →
    (t.put K).size = t.size ∧ (t.put K).depth = t.depth ∧ (t.put K).shaped = true ∧ (t.put K).Ok ∧ (isExprB (t.put K).op = isExprB t.op ∧ ((t.put K).op == 30) = (t.op == 30)) ∧ (t.put K).value [] = t.value K ∧ (t.put K).span [] = t.span K := by
  intro n
  induction n with
  | zero => intro t h; exact absurd t.size_pos (by omega)
  | succ n ih =>
    intro t hsz hsh hok hek
    obtain ⟨op, nm, num, ks⟩ := t
    replace hek : EK op := hek
    obtain ⟨hr, hks⟩ := Tr.shaped_mk hsh
    by_cases h4 : op = 4
    · subst h4
      obtain rfl := name_kids hr
      have hp : (Tr.mk 4 nm num []).put K = match findK nm K with | some v => v | none => .mk 4 nm num [] := by rw [Tr.put, if_pos (show ((4 : Int) == 4) = true from rfl)]; rfl
      have hv : (Tr.mk 4 nm num []).value K = findK nm K := rfl
      have hsp : (Tr.mk 4 nm num []).span K = noSP := rfl
      rw [hp, hv, hsp]
      cases hf : findK nm K with
      | none => exact ⟨rfl, rfl, hsh, hok, ⟨rfl, rfl⟩, rfl, rfl⟩
      | some v =>
        have ho := findK_ok hK v hf
        have hd := Tr.depth_bd v
        have h1 := ho.one
        have e1 : (Tr.mk 4 nm num []).size = 1 := rfl
        have e2 : (Tr.mk 4 nm num []).depth = 1 := rfl
        refine ⟨by rw [e1]; exact h1, by rw [e2]; show v.depth = 1; omega, ho.shaped, ho.okT, ⟨ho.ex.1, ho.ex.2⟩, (ho.self []).1, (ho.self []).2⟩
    · have hkk : ∀ k ∈ ks, EK k.op := by
        rcases hek with h | rfl
        · exact expr_kid hr h
        · obtain rfl := type_kids hr
          simp
      have hp : (Tr.mk op nm num ks).put K = .mk op nm num (ks.map fun k => k.put K) := by
        rw [Tr.put, if_neg (by simpa using h4), hek.ne (k := 67) rfl (by decide), if_neg (by decide), puts_map hek ks 0 hkk]
      have hI : ∀ k ∈ ks, _ := fun k hk => ih k (by have := Tr.size_mem hk; rw [Tr.size] at hsz; omega) (hks k hk) (Tr.kids_ok hok k hk) (hkk k hk)
      have hkin : Kin (fun k => k.put K) ks := fun k hk => (hI k hk).2.2.2.2.1
      have hvs : Tr.values [] (ks.map fun k => k.put K) = Tr.values K ks := by
        rw [values_get, values_get, List.map_map]
        exact List.map_congr_left fun k hk => (hI k hk).2.2.2.2.2.1
      have hss : Tr.spans [] (ks.map fun k => k.put K) = Tr.spans K ks := by
        rw [spans_get, spans_get, List.map_map]
        exact List.map_congr_left fun k hk => (hI k hk).2.2.2.2.2.2
      rw [hp]
      refine ⟨by rw [Tr.size, Tr.size, sizes_eq _ _ fun k hk => (hI k hk).1], by rw [Tr.depth, Tr.depth, deeps_eq _ _ _ fun k hk => (hI k hk).2.1], ?_, ?_, ⟨rfl, rfl⟩, ?_, ?_⟩
      · rw [Tr.shaped, Tr.shapeds_all, Bool.and_eq_true, Bool.not_eq_true', List.any_eq_false]
        constructor
        · rcases hek with h | rfl
          · rw [hkin.right h]; exact hr
          · obtain rfl := type_kids hr
            exact hr
        · intro x hx
          obtain ⟨k, hk, rfl⟩ := List.mem_map.1 hx
          rw [(hI k hk).2.2.1]; decide
      · cases hok with | mk h1 h2 h3 h4 h5 =>
        refine .mk h1 h2 h3 (by rw [List.length_map]; exact h4) fun x hx => ?_
        obtain ⟨k, hk, rfl⟩ := List.mem_map.1 hx
        exact (hI k hk).2.2.2.1
      · rw [Tr.value, Tr.value, hvs, hss]
        by_cases h1 : op = 1
        · subst h1
          obtain ⟨rfl, rfl⟩ := lit1 hsh
          rfl
        · by_cases h2 : op = 2
          · subst h2
            obtain ⟨rfl, rfl, _⟩ := lit2 hsh
            rfl
          · rw [valN_l (l' := K) h4, valN_k h1 h2]
      · rw [Tr.span, Tr.span, hvs, hss]
theorem evalT_gen {t : Tr} (h : QT t) (ho : isExprB t.op = true) {l : List (ByteArray × Tr)} (hl : constsB l = true) : evalT t l = evR (t.value (kl l)) := by
  obtain ⟨op, nm, num, ks⟩ := t
  rw [evalT, nodeE_expr h ho, if_neg (by decide), show isExprB op = true from ho, if_neg (by decide), hl, if_neg (by decide)]
  cases (Tr.mk op nm num ks).value (kl l) <;> rfl
theorem put_QT {t : Tr} (h : QT t) (ho : EK t.op) {K : KL} (hK : KOk K) : QT (t.put K) := by
  obtain ⟨h1, h2, h3, h4, _⟩ := put_facts hK _ t (Nat.le_refl _) h.2.1 h.2.2 ho
  refine ⟨?_, h3, h4⟩
  have h5 := (lim_iff t).1 h.1
  rw [lim_iff, h1, h2]
  exact h5
/-- The value of an expression in which constants were put is that with these constants. -/
theorem put_eval {t : Tr} (h : QT t) (ho : isExprB t.op = true) {l : List (ByteArray × Tr)} (hl : constsB l = true) (hc : COk l) : evalT (t.put (kl l)) [] = evalT t l := by
  have hK := kl_ok hc hl
  have hf := put_facts hK _ t (Nat.le_refl _) h.2.1 h.2.2 (.inl ho)
  rw [evalT_gen h ho hl, evalT_gen (put_QT h (.inl ho) hK) (by rw [hf.2.2.2.2.1.1]; exact ho) badC_nil, kl_nil, hf.2.2.2.2.2.1]
mutual
/-- A Name that is used. -/
def Tr.uses (x : ByteArray) : Tr → Bool
  | .mk op nm _ ks => if (op == 4) = true then decide (nm = x) else Tr.usess x ks
def Tr.usess (x : ByteArray) : List Tr → Bool
  | [] => false
  | k :: r => k.uses x || Tr.usess x r
end
theorem usess_mem {x : ByteArray} : ∀ {ks : List Tr}, Tr.usess x ks = false → ∀ k ∈ ks, k.uses x = false
  | k :: r, h, y, hy => by
    rw [Tr.usess, Bool.or_eq_false_iff] at h
    rcases List.mem_cons.1 hy with rfl | hy
    · exact h.1
    · exact usess_mem h.2 y hy
theorem unused_value {x : ByteArray} {v : Option Tr} {K : KL} : ∀ n (t : Tr), t.size ≤ n → t.uses x = false → t.value ((x, v) :: K) = t.value K ∧ t.span ((x, v) :: K) = t.span K := by
  intro n
  induction n with
  | zero => intro t h; exact absurd t.size_pos (by omega)
  | succ n ih =>
    intro t hsz hu
    obtain ⟨op, nm, num, ks⟩ := t
    rw [Tr.uses] at hu
    by_cases h4 : op = 4
    · subst h4
      rw [if_pos (show ((4 : Int) == 4) = true from rfl)] at hu
      have hne : ¬ x = nm := fun e => by rw [e] at hu; simp at hu
      refine ⟨?_, rfl⟩
      show findK nm ((x, v) :: K) = findK nm K
      rw [findK, if_neg hne]
    · rw [if_neg (by simpa using h4)] at hu
      have hI : ∀ k ∈ ks, _ := fun k hk => ih k (by have := Tr.size_mem hk; rw [Tr.size] at hsz; omega) (usess_mem hu k hk)
      have hvs : Tr.values ((x, v) :: K) ks = Tr.values K ks := by
        rw [values_get, values_get]
        exact List.map_congr_left fun k hk => (hI k hk).1
      have hss : Tr.spans ((x, v) :: K) ks = Tr.spans K ks := by
        rw [spans_get, spans_get]
        exact List.map_congr_left fun k hk => (hI k hk).2
      rw [Tr.value, Tr.value, Tr.span, Tr.span, hvs, hss]
      exact ⟨valN_l h4, rfl⟩
theorem kl_snoc (l : List (ByteArray × Tr)) (c : ByteArray × Tr) : kl (l ++ [c]) = (c.1, some c.2) :: kl l := by
  unfold kl
  rw [List.map_append, List.reverse_append]; rfl
/-- A constant that is not used changes nothing. -/
theorem unused_eval {t : Tr} (h : QT t) (ho : isExprB t.op = true) {l : List (ByteArray × Tr)} (hl : constsB l = true) {c : ByteArray × Tr} (hc : badC c = false) (hu : t.uses c.1 = false) : evalT t (l ++ [c]) = evalT t l := by
  have hl2 : constsB (l ++ [c]) = true := by
    unfold constsB at hl ⊢
    rw [Bool.not_eq_true'] at hl ⊢
    rw [List.any_append, hl, List.any_cons, hc]; rfl
  rw [evalT_gen h ho hl, evalT_gen h ho hl2, kl_snoc, (unused_value _ t (Nat.le_refl _) hu).1]
theorem val_eval {t : Tr} (h : QT t) (ho : isExprB t.op = true) {l : List (ByteArray × Tr)} (hl : constsB l = true) (hc : COk l) (hx : (evalT t l).2 = 0) : evalT (evalT t l).1 l = ((evalT t l).1, 0) := by
  rw [evalT_gen h ho hl] at hx ⊢
  cases hv : t.value (kl l) with
  | none => rw [hv] at hx; cases hx
  | some v =>
    have hk := value_ok (kl l) (kl_ok hc hl) _ t (Nat.le_refl _) h.2.2 h.2.1 v hv
    show evalT v l = (v, 0)
    rw [evalT_gen hk.QT hk.ex.1 hl, (hk.self (kl l)).1]; rfl
end Go.Proofs.YtklkbfpjimeaoaaGreat
