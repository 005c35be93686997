import Derived.Test.YtklkbfpjimeaoaaGreatM25
import Derived.Test.YtklkbfpjimeaoaaGreatM18
import Derived.Test.YtklkbfpjimeaoaaGreatM22
/- Contracts of functions. Conditions: none. -/
set_option linter.unusedSimpArgs false
set_option linter.unusedVariables false
set_option maxRecDepth 20000
namespace Go.Proofs.YtklkbfpjimeaoaaGreat
open Go Go.Proofs.YtklkbfpjimeaoaaGreat.E
section
def GClean (g : Tr) : Prop := g.Ok ∧ g.op = 50 ∧ g.shaped = true
theorem not_par {g : Tr} (h50 : g.op = 50) : isVarP g.op g.nu = (andI g.nu 8 != 0) := by unfold isVarP; rw [h50]; rfl
variable {c : KL}
theorem glob_put (hc : KOk c) {g : Tr} (h : GClean g) (hp : (andI g.nu 8 != 0) = false) : (g.put c).clean ∧ (g.put c).shaped = true ∧ (g.put c).op = 50 ∧ (g.put c).size = g.size ∧ (g.put c).depth ≤ g.depth := by
 obtain ⟨op, nm, num, ks⟩ := g
 obtain ⟨hok, h50, hsh⟩ := h
 obtain rfl : op = 50 := h50
 obtain ⟨hr, hks⟩ := Tr.shaped_mk hsh
 have hkok : ∀ k ∈ ks, k.Ok := Tr.kids_ok hok
 have hkind := stmt_kid (op := 50) rfl (by decide) hr
 have hnb : ∀ k ∈ ks, NS k.op := fun k hk => by
  rcases hkind k hk with h | h
  · exfalso
    have hr' := hr
    rw [right50, varB] at hr'
    split at hr'
    · cases hr'
    · have hT : ∀ l : List Tr, varTail num l = true → ∀ x ∈ l, x.op ≠ 66 := fun l hl x hx h66 => by
       rw [varTail_iff] at hl
       rcases hl with ⟨_, y, rfl, h6⟩ | ⟨_, rfl⟩
       · rw [List.mem_singleton.1 hx] at h66
         rw [h66] at h6
         exact absurd h6 (by decide)
       · cases hx
      split at hr'
      · cases ks with
        | nil => cases hk
        | cons t r =>
         rw [varTy, Bool.and_eq_true] at hr'
         rcases List.mem_cons.1 hk with rfl | hk
         · have h3 := hr'.1
           unfold varType at h3
           rw [h] at h3
           simp at h3
         · exact hT r hr'.2 k hk h
      · exact hT ks hr' k hk h
  · exact h
 have hput : (Tr.mk 50 nm num ks).put c = .mk 50 nm num (Tr.puts 50 num ks c 0 c ks) := by rw [Tr.put, if_neg (by decide), if_neg (by decide)]
 have hl := puts_len 50 num ks c ks 0 c
 rw [hput]
 generalize hps : Tr.puts 50 num ks c 0 c ks = ks' at hl
 have hK : ∀ (i : Nat) (k k' : Tr), ks[i]? = some k → ks'[i]? = some k' → (KR k k' ∧ (keepsB 50 num ks.length i k = true → k.op = 4 → k' = k)) ∧ k'.clean ∧ k'.shaped = true ∧ k'.size = k.size ∧ k'.depth = k.depth := fun i k k' hk hk' => by
  have hm := mG hk
  rw [← hps] at hk'
  obtain ⟨x, K, h3, h4, h5⟩ := puts_get hc ks 0 c hc i k' hk'
  obtain rfl : k = x := by rw [hk] at h3; exact Option.some.inj h3
  rcases h5 with rfl | ⟨h5, rfl⟩
  · exact ⟨⟨.inl ⟨rfl, fun _ => rfl⟩, fun _ _ => rfl⟩, pure_clean _ _ (Nat.le_refl _) (hks _ hm) (hnb _ hm), hks _ hm, rfl, rfl⟩
  · obtain ⟨h6, h7, h8⟩ := put_ns h4 (hks k hm) (hkok k hm) (hnb k hm)
    rw [Nat.zero_add] at h5
    exact ⟨⟨put_KR h4 k, fun h => absurd h (by rw [h5]; decide)⟩, pure_clean _ _ (Nat.le_refl _) h8 ((put_KR h4 k).ns (hnb k hm)), h8, h6, h7⟩
 have hmem : ∀ k' ∈ ks', ∃ k ∈ ks, k'.clean ∧ k'.shaped = true ∧ k'.depth = k.depth := fun k' hk' => by
  obtain ⟨i, hi⟩ := List.getElem?_of_mem hk'
  obtain ⟨k, hk⟩ := get_of hl hi
  obtain ⟨_, h2, h3, _, h5⟩ := hK i k k' hk hi
  exact ⟨k, mG hk, h2, h3, h5⟩
 refine ⟨clean_mk (by unfold isVarP; rw [show (andI num 8 != 0) = false from hp]; rfl) rfl fun k hk => by obtain ⟨_, _, h, _⟩ := hmem k hk; exact h, ?_, rfl, ?_, ?_⟩
 · rw [Tr.shaped, Tr.shapeds_all, Bool.and_eq_true, Bool.not_eq_true', List.any_eq_false]
   refine ⟨right_stmt rfl hr ⟨hl, fun i k k' h1 h2 => (hK i k k' h1 h2).1⟩, fun k hk => ?_⟩
   obtain ⟨_, _, _, h, _⟩ := hmem k hk
   rw [h]; decide
 · rw [Tr.size, Tr.size]
   have h1 := sizes_le ks ks' hl fun i k k' h1 h2 => Nat.le_of_eq (hK i k k' h1 h2).2.2.2.1
   have h2 := sizes_le ks' ks hl.symm fun i k' k h1 h2 => Nat.le_of_eq (hK i k k' h2 h1).2.2.2.1.symm
   omega
 · rw [Tr.depth, Tr.depth]
   have := deeps_ub ks' 0 (Tr.deeps ks 0) (fun k' hk' => by
    obtain ⟨k, hk, _, _, h⟩ := hmem k' hk'
    have := depth_mem 0 hk
    omega) (Tr.deeps_bd ks 0).1
   omega
theorem globF_good : ∀ (gs : List Tr) (c : KL) (x : List Tr × KL), (∀ g ∈ gs, GClean g) → KOk c → globF gs c = some x → (∀ t ∈ x.1, t.clean ∧ t.shaped = true ∧ t.op = 50 ∧ ∃ g ∈ gs, t.depth ≤ g.depth) ∧ Tr.sizes x.1 ≤ Tr.sizes gs ∧ KOk x.2 := by
 intro gs
 induction gs with
 | nil =>
  intro c x _ hc h
  rw [globF] at h
  obtain rfl := Option.some.inj h
  exact ⟨by simp, Nat.le_refl _, hc⟩
 | cons g r ih =>
  intro c x hg hc h
  have hgg := hg g (by simp)
  have hI := ih
  rw [globF] at h
  split at h
  · rename_i hp
    cases hs : staticV c g with
    | none => rw [hs] at h; cases h
    | some v =>
     rw [hs] at h
     have hvo : ValOk v := by
      obtain ⟨hok, h50, hsh⟩ := hgg
      obtain ⟨op, nm, num, ks⟩ := g
      obtain rfl : op = 50 := h50
      exact static_ok hc hok hsh hs
     obtain ⟨h1, h2, h3⟩ := ih _ x (fun y hy => hg y (by simp [hy])) (hc.cons g.nm hvo) h
     refine ⟨fun t ht => ?_, ?_, h3⟩
     · obtain ⟨h4, h5, h6, k, hk, h7⟩ := h1 t ht
       exact ⟨h4, h5, h6, k, by simp [hk], h7⟩
     · rw [Tr.sizes]; omega
  · rename_i hp
    cases hx : globF r (hideK g.nm c) with
    | none => rw [hx] at h; cases h
    | some y =>
     rw [hx] at h
     obtain rfl := Option.some.inj h
     obtain ⟨h1, h2, h3⟩ := ih _ y (fun z hz => hg z (by simp [hz])) (hc.hide g.nm) hx
     obtain ⟨h4, h5, h6, h7, h8⟩ := glob_put hc hgg (by simpa using hp)
     refine ⟨fun t ht => ?_, ?_, h3⟩
     · rcases List.mem_cons.1 ht with rfl | ht
       · exact ⟨h4, h5, h6, g, by simp, h8⟩
       · obtain ⟨h9, h10, h11, k, hk, h12⟩ := h1 t ht
         exact ⟨h9, h10, h11, k, by simp [hk], h12⟩
     · show Tr.sizes (g.put c :: y.1) ≤ _
       rw [Tr.sizes, Tr.sizes]; omega
theorem globF_same : ∀ (gs : List Tr) (c : KL), (∀ g ∈ gs, g.clean ∧ g.op = 50) → Hid c → ∃ c', globF gs c = some (gs, c') ∧ Hid c' := by
 intro gs
 induction gs with
 | nil => intro c _ hc; exact ⟨c, by rw [globF], hc⟩
 | cons g r ih =>
  intro c h hc
  obtain ⟨h1, h2⟩ := h g (by simp)
  have hp : (andI g.nu 8 != 0) = false := by
   rw [← not_par h2]
   obtain ⟨op, nm, num, ks⟩ := g
   exact (clean_kid h1).1
  obtain ⟨c', h3, h4⟩ := ih (hideK g.nm c) (fun x hx => h x (by simp [hx])) (hc.hide _)
  exact ⟨c', by rw [globF, hp, if_neg (by decide), h3, put_hid _ g (Nat.le_refl _) c hc], h4⟩
theorem Hid.fm : ∀ (l : List Fm) {c : KL}, Hid c → Hid (fmHide c l)
 | [], _, h => h
 | f :: r, c, h => by
  rw [fmHide]
  exact Hid.fm r (h.hide _)
def PFit (q : Pc) : Prop := (∀ t ∈ q.body, SFit t) ∧ ∀ t ∈ q.wh, t.Ok ∧ isExprB t.op = true ∧ t.shaped = true
theorem pcF_same {q : Pc} (h : ∀ t ∈ q.body, SFit t ∧ t.clean) {c : KL} (hc : Hid c) : pcF q c = q ∧ pcE q c = 0 := by
 have hb := block_same q.body (fun t ht => ⟨(h t ht).2, fun l hl => fold_same _ t (Nat.le_refl _) (h t ht).1 (h t ht).2 l hl⟩) _ (hc.fm q.formals)
 have hw : q.wh.map (fun t => t.put (fmHide c q.formals)) = q.wh := by
  conv => rhs; rw [← List.map_id q.wh]
  exact List.map_congr_left fun t _ => put_hid _ t (Nat.le_refl _) _ (hc.fm q.formals)
 unfold pcF pcE
 rw [hb, hw]
 exact ⟨rfl, rfl⟩
theorem procsF_same (hc : Hid c) : ∀ (l : List Pc), (∀ q ∈ l, ∀ t ∈ q.body, SFit t ∧ t.clean) → procsF l c = (l, 0) := by
 intro l
 induction l with
 | nil => intro _; rw [procsF]
 | cons q r ih =>
  intro h
  obtain ⟨h1, h2⟩ := pcF_same (h q (by simp)) hc
  rw [procsF, h1, h2, if_neg (by decide), ih fun x hx => h x (by simp [hx]), if_neg (by simp)]
variable {p : Pg}
theorem foldT_same (hf : formE p = 0) (hg : ∀ g ∈ p.globals, g.clean) (hq : ∀ q ∈ p.procs, ∀ t ∈ q.body, SFit t ∧ t.clean) : foldT p = (p, 0) := by
 have h1 := (form_facts hf).1
 obtain ⟨c', h2, h3⟩ := globF_same p.globals [] (fun g hg' => ⟨hg g hg', (h1 g hg').1⟩) Hid.nil
 unfold foldT
 rw [hf, if_neg (by decide), h2]
 dsimp only
 rw [procsF_same h3 p.procs hq, if_neg (by simp)]
theorem pcF_good {q : Pc} (hc : KOk c) (hf : PFit q) (he : pcE q c = 0) (hb : pcB q = true) : pcB (pcF q c) = true ∧ (∀ t ∈ (pcF q c).body, t.clean) ∧ Tr.sizes (pcTrees (pcF q c)) ≤ Tr.sizes (pcTrees q) ∧ (∀ t ∈ pcTrees (pcF q c), ∃ k ∈ pcTrees q, t.depth ≤ k.depth) := by
 have hl := KOk.fm q.formals hc
 obtain ⟨h1, h2⟩ := block_good q.body (fun t ht => ⟨hf.1 t ht, fun l hl hv h0 => fold_good _ t (Nat.le_refl _) (hf.1 t ht) l hl hv h0⟩) _ hl he
 have hw : ∀ t ∈ q.wh, (t.put (fmHide c q.formals)).size = t.size ∧ (t.put (fmHide c q.formals)).depth = t.depth ∧ (t.put (fmHide c q.formals)).shaped = true ∧ isExprB (t.put (fmHide c q.formals)).op = true := fun t ht => by
  obtain ⟨h3, h4, h5⟩ := hf.2 t ht
  obtain ⟨h6, h7, h8, _, h9, _⟩ := put_facts hl _ t (Nat.le_refl _) h5 h3 (.inl h4)
  exact ⟨h6, h7, h8, by rw [h9.1]; exact h4⟩
 have e1 : (pcF q c).formals = q.formals := rfl
 have e2 : (pcF q c).result = q.result := rfl
 have e3 : (pcF q c).wh = q.wh.map fun t => t.put (fmHide c q.formals) := rfl
 have e4 : (pcF q c).body = (Tr.block q.body (fmHide c q.formals)).1 := rfl
 have e5 : (pcF q c).nm = q.nm := rfl
 refine ⟨?_, fun t ht => (h1 t ht).1, ?_, fun t ht => ?_⟩
 · unfold pcB at hb ⊢
   rw [e1, e2, e3, e4, e5, List.length_map]
   split at hb
   · cases hb
   · rename_i h6
     rw [if_neg h6]
     have h7 : ((q.wh.map fun t => t.put (fmHide c q.formals)).any expW) = false := by
      rw [List.any_eq_false]
      intro x hx
      obtain ⟨t, ht, rfl⟩ := List.mem_map.1 hx
      unfold expW
      rw [(hw t ht).2.2.1, (hw t ht).2.2.2]; decide
     rw [h7, if_neg (by decide), Bool.not_eq_true', List.any_eq_false]
     intro x hx
     unfold stmW
     rw [(h1 x hx).2.1, (h1 x hx).2.2.1]; decide
 · unfold pcTrees
   rw [e1, e2, e3, e4, sizes_append, sizes_append, sizes_append, sizes_append, sizes_append, sizes_append, sizes_eq q.wh _ fun k hk => (hw k hk).1]
   omega
 · unfold pcTrees at ht ⊢
   rw [e1, e2, e3, e4] at ht
   rcases List.mem_append.1 ht with ht | ht
   · rcases List.mem_append.1 ht with ht | ht
     · exact ⟨t, List.mem_append.2 (.inl (List.mem_append.2 (.inl ht))), Int.le_refl _⟩
     · obtain ⟨y, hy, rfl⟩ := List.mem_map.1 ht
       exact ⟨y, List.mem_append.2 (.inl (List.mem_append.2 (.inr hy))), Int.le_of_eq (hw y hy).2.1⟩
   · obtain ⟨k, hk, h3⟩ := (h1 t ht).2.2.2
     exact ⟨k, List.mem_append.2 (.inr hk), h3⟩
theorem procsF_good (hc : KOk c) : ∀ (l : List Pc), (∀ q ∈ l, PFit q ∧ pcB q = true) → (procsF l c).2 = 0 → (procsF l c).1.length = l.length ∧ (∀ q ∈ (procsF l c).1, pcB q = true ∧ (∀ t ∈ q.body, t.clean) ∧ ∃ q0 ∈ l, q.formals = q0.formals) ∧
 Tr.sizes ((procsF l c).1.flatMap pcTrees) ≤ Tr.sizes (l.flatMap pcTrees) ∧ ∀ t ∈ (procsF l c).1.flatMap pcTrees, ∃ k ∈ l.flatMap pcTrees, t.depth ≤ k.depth := by
 intro l
 induction l with
 | nil => intro _ _; rw [procsF]; exact ⟨rfl, by simp, Nat.le_refl _, by simp⟩
 | cons q r ih =>
  intro h h0
  rw [procsF] at h0 ⊢
  split
  · rename_i h1
    rw [if_pos h1] at h0
    exact absurd h0 (by simpa using h1)
  · rename_i h1
    rw [if_neg h1] at h0
    split
    · rename_i h2
      rw [if_pos h2] at h0
      exact Y7
    · rename_i h2
      obtain ⟨h3, h4, h5, h6⟩ := ih (fun x hx => h x (by simp [hx])) (by simpa using h2)
      obtain ⟨h7, h8, h9, h10⟩ := pcF_good hc (h q (by simp)).1 (by simpa using h1) (h q (by simp)).2
      refine ⟨by simpa using h3, fun x hx => ?_, ?_, fun t ht => ?_⟩
      · rcases List.mem_cons.1 hx with rfl | hx
        · exact ⟨h7, h8, q, by simp, rfl⟩
        · obtain ⟨a, b, q0, hq0, e⟩ := h4 x hx
          exact ⟨a, b, q0, by simp [hq0], e⟩
      · rw [List.flatMap_cons, List.flatMap_cons, sizes_append, sizes_append]
        omega
      · rw [List.flatMap_cons] at ht
        rw [List.flatMap_cons]
        rcases List.mem_append.1 ht with ht | ht
        · obtain ⟨k, hk, e⟩ := h10 t ht
          exact ⟨k, List.mem_append.2 (.inl hk), e⟩
        · obtain ⟨k, hk, e⟩ := h6 t ht
          exact ⟨k, List.mem_append.2 (.inr hk), e⟩
theorem limits_of {ts ts' : List Tr} (h : limitsE ts = 0) (hs : Tr.sizes ts' ≤ Tr.sizes ts) (hd : ∀ t ∈ ts', ∃ k ∈ ts, t.depth ≤ k.depth) : limitsE ts' = 0 := by
 unfold limitsE at h ⊢
 split at h
 · cases h
 · split at h
   · cases h
   · have h1 := deeps_ub ts' 0 (Tr.deeps ts 0) (fun t ht => by
      obtain ⟨k, hk, e⟩ := hd t ht
      have := depth_mem 0 hk
      omega) (Tr.deeps_bd ts 0).1
     rw [if_neg (by omega), if_neg (by omega)]
theorem form_parts (h : formE p = 0) : (decide ((p.procs.length : Int) > 100) || p.procs.any manyB) = false ∧ limitsE p.trees = 0 ∧ p.procs.all pcB = true := by
 unfold formE at h
 split at h
 · cases h
 · rename_i h1
   split at h
   · rename_i h2; exact absurd h (by simpa using h2)
   · rename_i h2
     split at h
     · cases h
     · split at h
       · cases h
       · rename_i h3
         refine ⟨by simpa using h1, by simpa using h2, ?_⟩
         rw [List.all_eq_true]
         intro q hq
         have h4 : (p.procs.any fun q => !pcB q) = false := by simpa using h3
         simpa using List.any_eq_false.1 h4 q hq
theorem foldT_form (hok : p.Ok) (hT : p.total ≤ 1000000) (h0 : (foldT p).2 = 0) : formE (foldT p).1 = 0 ∧ (∀ g ∈ (foldT p).1.globals, g.clean) ∧ ∀ q ∈ (foldT p).1.procs, ∀ t ∈ q.body, t.clean := by
 have hf : formE p = 0 := by
  unfold foldT at h0
  split at h0
  · exact h0
  · rename_i h; simpa using h
 obtain ⟨hm, hlim, hpc⟩ := form_parts hf
 rw [List.all_eq_true] at hpc
 have hfacts := form_facts hf
 have hpf : ∀ q ∈ p.procs, PFit q ∧ pcB q = true := fun q hq => ⟨⟨(pc_fit hok hT hf hq).1, fun t ht => ⟨(hok.p q hq).w.2 t ht, (hfacts.2 q hq).1 t ht⟩⟩, hpc q hq⟩
 cases hx : globF p.globals [] with
 | none => unfold foldT at h0; rw [hf, if_neg (by decide), hx] at h0; cases h0
 | some x =>
  have hg := globF_good p.globals [] x (fun g hg => ⟨hok.g.2 g hg, (hfacts.1 g hg).1, (hfacts.1 g hg).2⟩) KOk_nil hx
  have hfo : foldT p = if ((procsF p.procs x.2).2 != 0) = true then (⟨[], []⟩, (procsF p.procs x.2).2) else (⟨x.1, (procsF p.procs x.2).1⟩, 0) := by
   unfold foldT; rw [hf, if_neg (by decide), hx]
  have hp0 : (procsF p.procs x.2).2 = 0 := by
   rw [hfo] at h0
   split at h0
   · exact h0
   · rename_i h; simpa using h
  rw [hfo, hp0, if_neg (by decide)]
  obtain ⟨h1, h2, h3, h4⟩ := procsF_good hg.2.2 p.procs hpf hp0
  refine ⟨?_, fun g hg' => (hg.1 g hg').1, fun q hq => (h2 q hq).2.1⟩
  rw [Bool.or_eq_false_iff] at hm
  have a1 : (decide ((((⟨x.1, (procsF p.procs x.2).1⟩ : Pg).procs.length : Nat) : Int) > 100) || (⟨x.1, (procsF p.procs x.2).1⟩ : Pg).procs.any manyB) = false := by
   rw [Bool.or_eq_false_iff]
   refine ⟨by rw [show (⟨x.1, (procsF p.procs x.2).1⟩ : Pg).procs.length = p.procs.length from h1]; exact hm.1, ?_⟩
   rw [List.any_eq_false]
   intro q hq
   obtain ⟨_, _, q0, hq0, e⟩ := h2 q hq
   unfold manyB
   rw [e]
   exact List.any_eq_false.1 hm.2 q0 hq0
  have a2 : limitsE (⟨x.1, (procsF p.procs x.2).1⟩ : Pg).trees = 0 := by
   refine limits_of hlim ?_ fun t ht => ?_
   · unfold Pg.trees
     rw [sizes_append, sizes_append]
     have := hg.2.1
     show Tr.sizes x.1 + Tr.sizes ((procsF p.procs x.2).1.flatMap pcTrees) ≤ _
     omega
   · unfold Pg.trees at ht ⊢
     rcases List.mem_append.1 ht with ht | ht
     · obtain ⟨_, _, _, k, hk, e⟩ := hg.1 t ht
       exact ⟨k, List.mem_append.2 (.inl hk), e⟩
     · obtain ⟨k, hk, e⟩ := h4 t ht
       exact ⟨k, List.mem_append.2 (.inr hk), e⟩
  have a3 : (⟨x.1, (procsF p.procs x.2).1⟩ : Pg).globals.any varW = false := by
   rw [List.any_eq_false]
   intro g hg'
   obtain ⟨_, b, c, _⟩ := hg.1 g hg'
   unfold varW
   rw [b, c]; decide
  have a4 : ((⟨x.1, (procsF p.procs x.2).1⟩ : Pg).procs.any fun q => !pcB q) = false := by
   rw [List.any_eq_false]
   intro q hq
   rw [(h2 q hq).1]; decide
  unfold formE
  rw [a1, if_neg (by decide), a2, if_neg (by decide), a3, if_neg (by decide), a4, if_neg (by decide)]
end
section
theorem pcF_total {q : Pc} {c : KL} (hc : KOk c) (hf : PFit q) (he : pcE q c = 0) : pcT (pcF q c) ≤ pcT q := by
 have hl := KOk.fm q.formals hc
 obtain ⟨_, h2⟩ := block_good q.body (fun t ht => ⟨hf.1 t ht, fun l hl hv h0 => fold_good _ t (Nat.le_refl _) (hf.1 t ht) l hl hv h0⟩) _ hl he
 have hw : Tr.sizes (q.wh.map fun t => t.put (fmHide c q.formals)) = Tr.sizes q.wh := sizes_eq q.wh _ fun t ht => by
  obtain ⟨h3, h4, h5⟩ := hf.2 t ht
  exact (put_facts hl _ t (Nat.le_refl _) h5 h3 (.inl h4)).1
 unfold pcT
 show fmT q.formals + q.result.size + Tr.sizes (q.wh.map fun t => t.put (fmHide c q.formals)) + Tr.sizes (Tr.block q.body (fmHide c q.formals)).1 ≤ _
 omega
theorem procsF_total {c : KL} (hc : KOk c) : ∀ (l : List Pc), (∀ q ∈ l, PFit q) → (procsF l c).2 = 0 → pcsT (procsF l c).1 ≤ pcsT l := by
 intro l
 induction l with
 | nil => intro _ _; rw [procsF]; exact Nat.le_refl _
 | cons q r ih =>
  intro h h0
  rw [procsF] at h0 ⊢
  split
  · rename_i h1
    rw [if_pos h1] at h0
    exact absurd h0 (by simpa using h1)
  · rename_i h1
    rw [if_neg h1] at h0
    split
    · rename_i h2
      rw [if_pos h2] at h0
      exact Y7
    · rename_i h2
      have h3 := ih (fun x hx => h x (by simp [hx])) (by simpa using h2)
      have h4 := pcF_total hc (h q (by simp)) (by simpa using h1)
      rw [pcsT, pcsT]
      omega
variable {p : Pg}
theorem foldT_total (hok : p.Ok) (hT : p.total ≤ 1000000) (h0 : (foldT p).2 = 0) : (foldT p).1.total ≤ p.total := by
 have hf : formE p = 0 := by
  unfold foldT at h0
  split at h0
  · exact h0
  · rename_i h; simpa using h
 have hfacts := form_facts hf
 have hpf : ∀ q ∈ p.procs, PFit q := fun q hq => ⟨(pc_fit hok hT hf hq).1, fun t ht => ⟨(hok.p q hq).w.2 t ht, (hfacts.2 q hq).1 t ht⟩⟩
 cases hx : globF p.globals [] with
 | none => unfold foldT at h0; rw [hf, if_neg (by decide), hx] at h0; cases h0
 | some x =>
  have hg := globF_good p.globals [] x (fun g hg => ⟨hok.g.2 g hg, (hfacts.1 g hg).1, (hfacts.1 g hg).2⟩) KOk_nil hx
  have hfo : foldT p = if ((procsF p.procs x.2).2 != 0) = true then (⟨[], []⟩, (procsF p.procs x.2).2) else (⟨x.1, (procsF p.procs x.2).1⟩, 0) := by
   unfold foldT; rw [hf, if_neg (by decide), hx]
  have hp0 : (procsF p.procs x.2).2 = 0 := by
   rw [hfo] at h0
   split at h0
   · exact h0
   · rename_i h; simpa using h
  rw [hfo, hp0, if_neg (by decide)]
  have h1 := procsF_total hg.2.2 p.procs hpf hp0
  unfold Pg.total
  have := hg.2.1
  show Tr.sizes x.1 + pcsT (procsF p.procs x.2).1 ≤ _
  omega
theorem know_of : ∀ (n : Nat) (t : Tr), t.size ≤ n → t.Ok → t.shaped = true → isStmtB t.op = true → t.size ≤ 4000 → t.depth ≤ 60 → t.knoB = false → t.knB = false := by
 intro n
 induction n with
 | zero => intro t h; exact absurd t.size_pos (by omega)
 | succ n ih =>
  intro t hsz hok hsh hst h4 h6 hk
  obtain ⟨op, nm, num, ks⟩ := t
  replace hst : isStmtB op = true := hst
  obtain ⟨hr, hks⟩ := Tr.shaped_mk hsh
  have hkok : ∀ k ∈ ks, k.Ok := Tr.kids_ok hok
  have hsz' : ∀ k ∈ ks, k.size + 1 ≤ (Tr.mk op nm num ks).size := fun k hk => by
   have := Tr.size_mem hk
   rw [Tr.size]
   omega
  have hdp : ∀ k ∈ ks, k.depth + 1 ≤ (Tr.mk op nm num ks).depth := fun k hk => depth_kid hk
  rw [Tr.knoB_mk, Bool.or_eq_false_iff, List.any_eq_false] at hk
  rw [Tr.knB_mk, Bool.or_eq_false_iff, List.any_eq_false]
  constructor
  · unfold ifB
    by_cases h52 : op = 52
    · subst h52
      obtain ⟨c, r, rfl, _⟩ := if_facts hsh
      have hce := if_cond hsh
      have h1 := hsz' c (by simp)
      have h2 := hdp c (by simp)
      have hq : QT c := ⟨(lim_iff c).2 ⟨by omega, by omega⟩, hks c (by simp), hkok c (by simp)⟩
      have h3 := hk.1
      unfold ifK at h3
      have h5 : ((evalT c []).2 == 0) = false := by simpa using h3
      rw [show v0 (Tr.values [] (c :: r)) 0 = c.value [] from rfl]
      cases hv : c.value [] with
      | none => rfl
      | some v =>
       exfalso
       have h7 : evalT c [] = evR (c.value []) := by
        obtain ⟨cop, cnm, cnu, cks⟩ := c
        exact evalT_expr hq hce
       rw [h7, hv] at h5
       have h8 : (true : Bool) = false := h5
       cases h8
    · rw [beq_eq_false_iff_ne.2 h52]; rfl
  · intro k hkm
    have h1 := hsz' k hkm
    have h2 := hdp k hkm
    have hkn : k.knoB = false := by simpa using hk.2 k hkm
    have hS : isStmtB k.op = true → ¬ k.knB = true := fun h => by
     rw [ih k (by omega) (hkok k hkm) (hks k hkm) h (by omega) (by omega) hkn]; decide
    by_cases h66 : op = 66
    · subst h66
      exact hS (stmt_kids hsh k hkm)
    · rcases stmt_kid hst h66 hr k hkm with h | h
      · exact hS (by rw [h]; rfl)
      · rw [(pure_clean _ k (Nat.le_refl _) (hks k hkm) h).2]; decide
theorem Pg.some_false {f : Tr → Bool} : p.some f = false ↔ (∀ g ∈ p.globals, f g = false) ∧ ∀ q ∈ p.procs, ∀ t ∈ q.body, f t = false := by
 unfold Pg.some
 rw [Bool.or_eq_false_iff, List.any_eq_false, List.any_eq_false]
 constructor
 · rintro ⟨h1, h2⟩
   refine ⟨fun g hg => by simpa using h1 g hg, fun q hq t ht => ?_⟩
   have h3 : q.body.any f = false := by simpa using h2 q hq
   simpa using List.any_eq_false.1 h3 t ht
 · rintro ⟨h1, h2⟩
   refine ⟨fun g hg => by rw [h1 g hg]; decide, fun q hq => ?_⟩
   have h3 : q.body.any f = false := by
    rw [List.any_eq_false]
    intro t ht
    rw [h2 q hq t ht]; decide
   rw [h3]; decide
theorem limits_mem {ts : List Tr} (h : limitsE ts = 0) {t : Tr} (ht : t ∈ ts) : t.size ≤ 4000 ∧ t.depth ≤ 60 := by
 unfold limitsE at h
 split at h
 · cases h
 · split at h
   · cases h
   · have h1 := sizes_mem ht
     have h2 := depth_mem 0 ht
     exact ⟨by omega, by omega⟩
theorem fold_facts (hok : p.Ok) (hT : p.total ≤ 1000000) (h0 : (foldT p).2 = 0) :
 (foldT p).1.some Tr.parB = false ∧ (p.some Tr.parB = false → p.some Tr.knoB = false → (foldT p).1 = p) ∧ foldT (foldT p).1 = ((foldT p).1, 0) ∧ (foldT p).1.total ≤ p.total := by
 obtain ⟨h1, h2, h3⟩ := foldT_form hok hT h0
 have h4 := foldT_total hok hT h0
 have h5 := foldT_ok hok hT
 refine ⟨Pg.some_false.2 ⟨fun g hg => (h2 g hg).1, fun q hq t ht => (h3 q hq t ht).1⟩, fun hp hk => ?_, foldT_same h1 h2 fun q hq t ht => ⟨(pc_fit h5 (by omega) h1 hq).1 t ht, h3 q hq t ht⟩, h4⟩
 have hf : formE p = 0 := by
  unfold foldT at h0
  split at h0
  · exact h0
  · rename_i h; simpa using h
 have hfacts := form_facts hf
 have hlim := (form_parts hf).2.1
 rw [Pg.some_false] at hp hk
 have hs := foldT_same hf (fun g hg => ⟨hp.1 g hg, ?_⟩) (fun q hq t ht => ⟨(pc_fit hok hT hf hq).1 t ht, hp.2 q hq t ht, ?_⟩)
 · rw [hs]
 · obtain ⟨h6, h7⟩ := limits_mem hlim (show g ∈ p.trees from List.mem_append.2 (.inl hg))
   exact know_of _ g (Nat.le_refl _) (hok.g.2 g hg) (hfacts.1 g hg).2 (by rw [(hfacts.1 g hg).1]; rfl) h6 h7 (hk.1 g hg)
 · obtain ⟨h6, h7⟩ := limits_mem hlim (show t ∈ p.trees from List.mem_append.2 (.inr (List.mem_flatMap.2 ⟨q, hq, by unfold pcTrees; exact List.mem_append.2 (.inr ht)⟩)))
   have hsf := (pc_fit hok hT hf hq).1 t ht
   exact know_of _ t (Nat.le_refl _) hsf.1 hsf.2.1 hsf.2.2.1 h6 h7 (hk.2 q hq t ht)
end
section
set_option maxHeartbeats 16000000 in
theorem c13 (p : Pg) (hok : p.Ok) : Pf Tryz.prog 13 [.agg [.sl (p.globals.map Tr.d), .sl (p.procs.map Pc.d)]] (.d (.bool true)) := by
 refine pf_body (rvs := [.tmp 2]) [(0, .d (.agg [.sl (p.globals.map Tr.d), .sl (p.procs.map Pc.d)]))] Tryz.func13 Tryz.ntmps13 Tryz.results13 (fun S0 O0 w0 m0 hm0 => ?_)
 refine Z232 ?_;refine Z62 ?_;refine Z233 ?_;refine Z149 ?_
 refine gL (xs := [.tmp 7, .const (.int .i64 (400))]) rfl (c14g p 400 hok (by decide) (by decide)) ?_
 refine Z281 ?_
 refine gC ?_ ?_ <;> intro hb0
 ·
  refine Z3 ?_
  refine gL (xs := []) rfl (c27) ?_
  refine Z243 ?_
  exact ⟨by first | rfl | simp, rfl⟩
 have hfw : p.few 400 = true := by simpa using hb0
 have hs := (Pg.few_total (by decide) hfw).1
 have hT : p.total ≤ 1000000 := by omega
 have q59 := c59 p hok hT
 have hr := foldT_ok hok hT
 have hF := fold_facts hok hT
 have hE : (foldT p).2 = 0 → Pf Tryz.prog 59 [.agg [.sl ((foldT p).1.globals.map Tr.d), .sl ((foldT p).1.procs.map Pc.d)]] (.tup [.d (foldT p).1.d, .d (.int .i64 0)]) := fun h => by
  have h1 := hF h
  have h2 := c59 (foldT p).1 hr (by omega)
  rw [h1.2.2.1] at h2
  exact h2
 have hp1 := c62 p 65 Tr.parB hok (fun t ht _ => c65n _ t (Nat.le_refl _) ht)
 have hp2 := c62 p 66 Tr.knoB hok (fun t ht hz => c66n _ t (Nat.le_refl _) ht (by omega))
 replace hF : (foldT p).2 = 0 → (foldT p).1.some Tr.parB = false ∧ (p.some Tr.parB = false → p.some Tr.knoB = false → (foldT p).1 = p) := fun h => ⟨(hF h).1, (hF h).2.1⟩
 have q62 := c62 (foldT p).1 65 Tr.parB hr (fun t ht _ => c65n _ t (Nat.le_refl _) ht)
 have q61 := c61 (foldT p).1 hr
 generalize (foldT p).2 = re at q59 hF hE
 generalize (foldT p).1 = r at q59 hF hE q62 q61 hr
 replace q59 : Pf Tryz.prog 59 _ (.tup [.d (.agg [.sl (r.globals.map Tr.d), .sl (r.procs.map Pc.d)]), .d (.int .i64 re)]) := q59
 refine Z43 ?_;refine Z149 ?_
 refine gL (xs := [.tmp 12]) rfl (q59) ?_
 refine Z271 ?_
 refine sv rfl (y_alloc zr25) ?_
 refine Z203 ?_
 refine gF 0 [] (.agg [.sl (r.globals.map Tr.d), .sl (r.procs.map Pc.d)]) rfl ?_
 refine Z1 ?_;refine Z136 ?_
 refine gP [0, 1, 2, 3, 4, 5, 6] ?_
 refine Z253 ?_;refine Z261 ?_
 refine gC ?_ ?_ <;> intro hb1
 ·
  refine Z3 ?_
  refine gL (xs := []) rfl (c27) ?_
  refine Z243 ?_
  exact ⟨by first | rfl | simp, rfl⟩
 have he0 : re = 0 := by simpa using hb1
 obtain ⟨hA, hB⟩ := hF he0
 have hq59 := hE he0
 replace hq59 : Pf Tryz.prog 59 _ (.tup [.d (.agg [.sl (r.globals.map Tr.d), .sl (r.procs.map Pc.d)]), .d (.int .i64 0)]) := hq59
 rw [hA] at q62
 have hq61 : (!p.some Tr.parB && !p.some Tr.knoB) = true → Pf Tryz.prog 61 [.agg [.sl (p.globals.map Tr.d), .sl (p.procs.map Pc.d)], .agg [.sl (r.globals.map Tr.d), .sl (r.procs.map Pc.d)]] (.d (.bool true)) := fun h => by
  rw [Bool.and_eq_true, Bool.not_eq_true', Bool.not_eq_true'] at h
  have he := hB h.1 h.2
  rw [he] at q61 ⊢
  exact q61
 refine Z43 ?_;refine Z234 ?_
 refine G_seq_cut (α := Unit) (fun u => ⟨[(3, .d (.ptr (.agg [.sl (r.globals.map Tr.d), .sl (r.procs.map Pc.d)])))], []⟩) (fun u => True) (fun Q' hn he hr => ?_) (fun u hu => ?_)
 ·
  refine Z254 ?_;refine Z149 ?_
  refine gL (xs := [.tmp 20, .func 65]) rfl (q62) ?_
  refine Z0 ?_
  refine sgo rfl (by rfl) y_move ?_
  refine sgo rfl (by rfl) (y_loadp_agg (by exact sz25) u25 rfl) ?_
  refine g_callo (xs := [.tmp 24, .func 65]) rfl (by rfl) (hp1) ?_
  refine sgo rfl (by rfl) y_not ?_
  refine sgo rfl (by rfl) y_move ?_
  refine g_split 27 true (fun hsp => ?_) (fun hsp => ?_)
  ·
   refine Z95 ?_;refine Z142 ?_
   refine g_callo (xs := [.tmp 29, .func 66]) rfl hsp (hp2) ?_
   refine sgo rfl hsp y_not ?_
   refine Z188 ?_
   refine sgo rfl (by rfl) y_move ?_
   refine g_split 33 true (fun hsp => ?_) (fun hsp => ?_)
   ·
    refine Z142 ?_;refine Z142 ?_
    refine g_callo (xs := [.tmp 34, .tmp 35]) rfl hsp (hq61 (by first | (simp at hsp; done) | simpa using hsp)) ?_
    refine sgo rfl hsp y_not ?_
    refine Z188 ?_;refine Z251 ?_
    refine gC ?_ ?_ <;> intro hb2
    · exact absurd hb2 (by simp)
    refine Z167 ?_
    refine hn _ () trivial le_of
   refine Z264 ?_;refine Z188 ?_;refine Z251 ?_
   refine gC ?_ ?_ <;> intro hb3
   · exact absurd hb3 (by simp)
   refine Z167 ?_
   refine hn _ () trivial le_of
  refine Z264 ?_;refine Z188 ?_
  refine sgo rfl (by rfl) y_move ?_
  refine g_split 33 true (fun hsp => ?_) (fun hsp => ?_)
  ·
   refine Z142 ?_;refine Z142 ?_
   refine g_callo (xs := [.tmp 34, .tmp 35]) rfl hsp (hq61 (by first | (simp at hsp; done) | simpa using hsp)) ?_
   refine sgo rfl hsp y_not ?_
   refine Z188 ?_;refine Z251 ?_
   refine gC ?_ ?_ <;> intro hb4
   · exact absurd hb4 (by simp)
   refine Z167 ?_
   refine hn _ () trivial le_of
  refine Z264 ?_;refine Z188 ?_;refine Z251 ?_
  refine gC ?_ ?_ <;> intro hb5
  · exact absurd hb5 (by simp)
  refine Z167 ?_
  refine hn _ () trivial le_of
 skip
 refine Z53 ?_
 refine gP [0, 1, 2, 3, 4, 5, 6] ?_
 refine Z14 ?_;refine Z149 ?_
 refine gL (xs := [.tmp 41]) rfl (hq59) ?_
 refine Z271 ?_
 refine sv rfl (y_alloc zr25) ?_
 refine Z203 ?_
 refine gF 0 [] (.agg [.sl (r.globals.map Tr.d), .sl (r.procs.map Pc.d)]) rfl ?_
 refine Z277 ?_;refine Z20 ?_;refine Z0 ?_
 refine sg rfl (fun hg => qG (by exact sz25) u25 rfl) ?_
 refine sg rfl (fun hg => qG (by exact sz25) u25 rfl) ?_
 refine g_callg (xs := [.tmp 48, .tmp 49]) rfl (fun hg => q61) ?_
 refine Z241 ?_
 refine g_callg (xs := []) rfl (fun hg => c27) ?_
 refine Z257 ?_
 exact ⟨by first | rfl | simp, rfl⟩
end
section
theorem c1_3 : Tryz.prog.cellsOf 3 = 1 := by kernel_rfl
theorem c1_9 : Tryz.prog.cellsOf 9 = 1 := by kernel_rfl
theorem c1_22 : Tryz.prog.cellsOf 22 = 1 := by kernel_rfl
theorem c1_27 : Tryz.prog.cellsOf 27 = 4 := by kernel_rfl
theorem list4 : ∀ (ds : List D), ds.length = 4 → ∃ d0 d1 d2 d3, ds = [d0, d1, d2, d3]
 | [d0, d1, d2, d3], _ => ⟨d0, d1, d2, d3, rfl⟩
theorem tree_of {e : TypeId} {ds : List D} (h : DT Tryz.prog e ds) : (e = 27 → ∃ t : Tr, t.Ok ∧ D.agg ds = t.d) ∧ (e = 22 → ∃ ts : List Tr, ds = [.sl (ts.map Tr.d)] ∧ ts.length ≤ 140737488355328 ∧ ∀ t ∈ ts, t.Ok) := by
 induction h with
 | bool t b hu => exact ⟨fun h => (by subst h; rw [u27] at hu; cases hu), fun h => (by subst h; rw [u22] at hu; cases hu)⟩
 | int t k n hu => exact ⟨fun h => (by subst h; rw [u27] at hu; cases hu), fun h => (by subst h; rw [u22] at hu; cases hu)⟩
 | str t s hu => exact ⟨fun h => (by subst h; rw [u27] at hu; cases hu), fun h => (by subst h; rw [u22] at hu; cases hu)⟩
 | nil t e hu => exact ⟨fun h => (by subst h; rw [u27] at hu; cases hu), fun h => (by subst h; rw [u22] at hu; cases hu)⟩
 | ptr t e ds hu => exact ⟨fun h => (by subst h; rw [u27] at hu; cases hu), fun h => (by subst h; rw [u22] at hu; cases hu)⟩
 | sl t e dss hu hl hall ih =>
  refine ⟨fun h => (by subst h; rw [u27] at hu; cases hu), fun h => ?_⟩
  subst h
  rw [u22] at hu
  injection hu with hu
  injection hu with hu
  subst hu
  obtain ⟨ts, h1, h2, h3⟩ := list_at (P := Tryz.prog) (e := 27) (f := Tr.d) (Q := Tr.Ok) dss (fun i ds hi => by
   obtain ⟨t, ho, ht⟩ := (ih i ds hi).1 rfl
   exact ⟨t, ho, by simpa [D.mk, u27] using ht⟩)
  exact ⟨ts, by rw [h1], by rw [h3]; unfold reachBytes at hl; omega, h2⟩
 | struct t fs ds hu hl hall ih =>
  refine ⟨fun h => ?_, fun h => (by subst h; rw [u22] at hu; cases hu)⟩
  subst h
  rw [u27] at hu
  injection hu with hu
  injection hu with hu
  subst hu
  rw [c1_27] at hl
  obtain ⟨d0, d1, d2, d3, rfl⟩ := list4 ds hl
  have h0 : DT Tryz.prog 3 ((List.drop 0 [d0, d1, d2, d3]).take (Tryz.prog.cellsOf 3)) := hall 0 _ rfl
  have h1 : DT Tryz.prog 9 ((List.drop 1 [d0, d1, d2, d3]).take (Tryz.prog.cellsOf 9)) := hall 1 _ rfl
  have h2 : DT Tryz.prog 3 ((List.drop 2 [d0, d1, d2, d3]).take (Tryz.prog.cellsOf 3)) := hall 2 _ rfl
  obtain ⟨ts, h3, hlen, hok⟩ := (ih 3 _ rfl).2 rfl
  replace h3 : (List.drop 3 [d0, d1, d2, d3]).take (Tryz.prog.cellsOf 22) = [.sl (ts.map Tr.d)] := h3
  simp only [c1_3, c1_9, c1_22, List.drop_zero, List.drop_succ_cons, List.take_succ_cons, List.take_zero] at h0 h1 h2 h3
  obtain ⟨n0, e0, w0⟩ := h0.int_of u3
  obtain ⟨s1, e1, w1⟩ := h1.str_of u9
  obtain ⟨n2, e2, w2⟩ := h2.int_of u3
  obtain rfl := (List.cons.inj e0).1
  obtain rfl := (List.cons.inj e1).1
  obtain rfl := (List.cons.inj e2).1
  obtain rfl := (List.cons.inj h3).1
  exact ⟨.mk n0 s1 n2 ts, .mk w0 (by unfold reachBytes at w1; omega) w2 hlen hok, by rw [Tr.d_mk]⟩
theorem node_of {ds : List D} (h : DT Tryz.prog 27 ds) : ∃ t : Tr, t.Ok ∧ D.agg ds = t.d := (tree_of h).1 rfl
end
section
theorem c1_4 : Tryz.prog.cellsOf 4 = 1 := by kernel_rfl
theorem c1_23 : Tryz.prog.cellsOf 23 = 1 := by kernel_rfl
theorem c1_79 : Tryz.prog.cellsOf 79 = 1 := by kernel_rfl
theorem c1_25 : Tryz.prog.cellsOf 25 = 2 := by kernel_rfl
theorem c1_81 : Tryz.prog.cellsOf 81 = 10 := by kernel_rfl
theorem c1_102 : Tryz.prog.cellsOf 102 = 6 := by kernel_rfl
theorem list6 : ∀ (ds : List D), ds.length = 6 → ∃ d0 d1 d2 d3 d4 d5, ds = [d0, d1, d2, d3, d4, d5]
 | [d0, d1, d2, d3, d4, d5], _ => ⟨d0, d1, d2, d3, d4, d5, rfl⟩
theorem list10 : ∀ (ds : List D), ds.length = 10 → ∃ d0 d1 d2 d3 d4 d5 d6 d7 d8 d9, ds = [d0, d1, d2, d3, d4, d5, d6, d7, d8, d9]
 | [d0, d1, d2, d3, d4, d5, d6, d7, d8, d9], _ => ⟨d0, d1, d2, d3, d4, d5, d6, d7, d8, d9, rfl⟩
theorem list2d : ∀ (ds : List D), ds.length = 2 → ∃ d0 d1, ds = [d0, d1]
 | [d0, d1], _ => ⟨d0, d1, rfl⟩
theorem node_cells {d0 d1 d2 d3 : D} {t : Tr} (h : D.agg [d0, d1, d2, d3] = t.d) : d0 = .int .i64 t.op ∧ d1 = .str t.nm ∧ d2 = .int .i64 t.nu ∧ d3 = .sl (t.kids.map Tr.d) := by
 rw [t.d_eta] at h
 injection h with h
 injection h with h0 h
 injection h with h1 h
 injection h with h2 h
 injection h with h3 _
 exact ⟨h0, h1, h2, h3⟩
theorem nodes_of {ds : List D} (h : DT Tryz.prog 22 ds) : ∃ ts : List Tr, ds = [.sl (ts.map Tr.d)] ∧ TsOk ts := by
 obtain ⟨ts, h1, h2, h3⟩ := (tree_of h).2 rfl
 exact ⟨ts, h1, h2, h3⟩
theorem mkformal_of {ds : List D} (h : DT Tryz.prog 102 ds) : ∃ f : Fm, f.Ok ∧ D.mk Tryz.prog 102 ds = f.d := by
 obtain ⟨hl, hf⟩ := h.struct_of u102
 rw [c1_102] at hl
 obtain ⟨d0, d1, d2, d3, d4, d5, rfl⟩ := list6 ds hl
 have h0 : DT Tryz.prog 9 ((List.drop 0 [d0, d1, d2, d3, d4, d5]).take (Tryz.prog.cellsOf 9)) := hf 0 _ rfl
 have h1 : DT Tryz.prog 9 ((List.drop 1 [d0, d1, d2, d3, d4, d5]).take (Tryz.prog.cellsOf 9)) := hf 1 _ rfl
 have h2 : DT Tryz.prog 27 ((List.drop 2 [d0, d1, d2, d3, d4, d5]).take (Tryz.prog.cellsOf 27)) := hf 2 _ rfl
 rw [c1_9] at h0 h1
 rw [c1_27] at h2
 obtain ⟨s0, e0, w0⟩ := h0.str_of u9
 obtain ⟨s1, e1, w1⟩ := h1.str_of u9
 obtain rfl := (List.cons.inj e0).1
 obtain rfl := (List.cons.inj e1).1
 obtain ⟨t, hok, ht⟩ := node_of h2
 obtain ⟨rfl, rfl, rfl, rfl⟩ := node_cells ht
 refine ⟨⟨s0, s1, t⟩, ⟨by unfold reachBytes at w0; show s0.size ≤ _; omega, by unfold reachBytes at w1; show s1.size ≤ _; omega, hok⟩, ?_⟩
 simp [D.mk, u102, Fm.d]
theorem formals_of {ds : List D} (h : DT Tryz.prog 79 ds) : ∃ l : List Fm, ds = [.sl (l.map Fm.d)] ∧ l.length ≤ 140737488355328 ∧ ∀ f ∈ l, f.Ok := by
 obtain ⟨dss, h1, h2, h3⟩ := h.sl_of u79
 obtain ⟨l, h4, h5, h6⟩ := list_of (f := Fm.d) (fun ds h => mkformal_of h) dss h3
 exact ⟨l, by rw [h1, h4], by unfold reachBytes at h2; omega, h5⟩
theorem mkproc_of {ds : List D} (h : DT Tryz.prog 81 ds) : ∃ q : Pc, q.Ok ∧ D.mk Tryz.prog 81 ds = q.d := by
 obtain ⟨hl, hf⟩ := h.struct_of u81
 rw [c1_81] at hl
 obtain ⟨d0, d1, d2, d3, d4, d5, d6, d7, d8, d9, rfl⟩ := list10 ds hl
 have h0 : DT Tryz.prog 9 ((List.drop 0 [d0, d1, d2, d3, d4, d5, d6, d7, d8, d9]).take (Tryz.prog.cellsOf 9)) := hf 0 _ rfl
 have h1 : DT Tryz.prog 4 ((List.drop 1 [d0, d1, d2, d3, d4, d5, d6, d7, d8, d9]).take (Tryz.prog.cellsOf 4)) := hf 1 _ rfl
 have h2 : DT Tryz.prog 4 ((List.drop 2 [d0, d1, d2, d3, d4, d5, d6, d7, d8, d9]).take (Tryz.prog.cellsOf 4)) := hf 2 _ rfl
 have h3 : DT Tryz.prog 79 ((List.drop 3 [d0, d1, d2, d3, d4, d5, d6, d7, d8, d9]).take (Tryz.prog.cellsOf 79)) := hf 3 _ rfl
 have h4 : DT Tryz.prog 27 ((List.drop 4 [d0, d1, d2, d3, d4, d5, d6, d7, d8, d9]).take (Tryz.prog.cellsOf 27)) := hf 4 _ rfl
 have h5 : DT Tryz.prog 22 ((List.drop 8 [d0, d1, d2, d3, d4, d5, d6, d7, d8, d9]).take (Tryz.prog.cellsOf 22)) := hf 5 _ rfl
 have h6 : DT Tryz.prog 22 ((List.drop 9 [d0, d1, d2, d3, d4, d5, d6, d7, d8, d9]).take (Tryz.prog.cellsOf 22)) := hf 6 _ rfl
 rw [c1_9] at h0
 rw [c1_4] at h1 h2
 rw [c1_79] at h3
 rw [c1_27] at h4
 rw [c1_22] at h5 h6
 obtain ⟨s0, e0, w0⟩ := h0.str_of u9
 obtain ⟨b1, e1⟩ := h1.bool_of u4
 obtain ⟨b2, e2⟩ := h2.bool_of u4
 obtain ⟨l3, e3, w3, k3⟩ := formals_of h3
 obtain ⟨t, hok, ht⟩ := node_of h4
 obtain ⟨l5, e5, k5⟩ := nodes_of h5
 obtain ⟨l6, e6, k6⟩ := nodes_of h6
 obtain rfl := (List.cons.inj e0).1
 obtain rfl := (List.cons.inj e1).1
 obtain rfl := (List.cons.inj e2).1
 obtain rfl := (List.cons.inj e3).1
 obtain rfl := (List.cons.inj e5).1
 obtain rfl := (List.cons.inj e6).1
 obtain ⟨rfl, rfl, rfl, rfl⟩ := node_cells ht
 refine ⟨⟨s0, b1, b2, l3, t, l5, l6⟩, ⟨by unfold reachBytes at w0; show s0.size ≤ _; omega, w3, k3, hok, k5, k6⟩, ?_⟩
 simp [D.mk, u81, Pc.d]
theorem prog_of {ds : List D} (h : DT Tryz.prog 25 ds) : ∃ p : Pg, p.Ok ∧ D.agg ds = .agg [.sl (p.globals.map Tr.d), .sl (p.procs.map Pc.d)] := by
 obtain ⟨hl, hf⟩ := h.struct_of u25
 rw [c1_25] at hl
 obtain ⟨d0, d1, rfl⟩ := list2d ds hl
 have h0 : DT Tryz.prog 22 ((List.drop 0 [d0, d1]).take (Tryz.prog.cellsOf 22)) := hf 0 _ rfl
 have h1 : DT Tryz.prog 23 ((List.drop 1 [d0, d1]).take (Tryz.prog.cellsOf 23)) := hf 1 _ rfl
 rw [c1_22] at h0
 rw [c1_23] at h1
 obtain ⟨l0, e0, k0⟩ := nodes_of h0
 obtain ⟨dss, h2, h3, h4⟩ := h1.sl_of u23
 obtain ⟨l1, h5, h6, h7⟩ := list_of (f := Pc.d) (fun ds h => mkproc_of h) dss h4
 rw [h5] at h2
 obtain rfl := (List.cons.inj e0).1
 obtain rfl := (List.cons.inj h2).1
 exact ⟨⟨l0, l1⟩, ⟨k0, by show l1.length ≤ _; unfold reachBytes at h3; omega, h6⟩, rfl⟩
end
end Go.Proofs.YtklkbfpjimeaoaaGreat
