import Derived.Test.YtklkbfpjimeaoaaGreatM19
import Derived.Test.YtklkbfpjimeaoaaGreatM12
import Derived.Test.YtklkbfpjimeaoaaGreatM11
import Derived.Test.YtklkbfpjimeaoaaGreatM10
/- Contracts of functions. Conditions: none. -/
set_option linter.unusedSimpArgs false
set_option linter.unusedVariables false
set_option maxRecDepth 20000
namespace Go.Proofs.YtklkbfpjimeaoaaGreat
open Go Go.Proofs.YtklkbfpjimeaoaaGreat.E
section
theorem finkn {P : Program} {t n : Nat} {p q : PV} {s : GS} {R : PV → List (List PV) → Prop} {e : Exit} (mem' : List (List PV)) (he : e = .normal ∨ e = .ret) (hR : R q mem') (hs : s.get t = some p) (hq : p.copy = q) (hb : PV.refsB mem'.length q = true) (hl : n ≤ mem'.length)
 (hm : MSub mem'.length s.mem mem') : Fin P [.tmp t] n R e s := ⟨he, .inl ⟨[p.copy], mem', .cons (.tmp hs) .nil, hl, hm, by simp only [tupOf]; rw [hq]; exact hb, by simp only [tupOf]; rw [hq]; exact hR⟩⟩
theorem fincn {P : Program} {t b n k : Nat} {ty : TypeId} {cs : List PV} {td : TypeDesc} {q : PV} {s : GS} {R : PV → List (List PV) → Prop} {e : Exit} (mem' : List (List PV)) (hz : (P.info? ty).map (·.size) = some k) (hu : P.underlying ty = some td) (he : e = .normal ∨ e = .ret) (hR : R q mem')
 (hs : s.get t = some (.ref b 0)) (hm : s.mem[b]? = some cs) (hq : mkAgg ((cs.drop 0).take k) = q) (hl : leafT td = false) (hn : 0 + k ≤ cs.length) (hne : plainB cs = true) (hb : PV.refsB mem'.length q = true) (hk : n ≤ mem'.length) (hms : MSub mem'.length s.mem mem') : Fin P [.cell t ty] n R e s :=
 ⟨he, .inl ⟨[mkAgg ((cs.drop 0).take k)], mem', (.cons (.agg hs hm hz hu hl hn hne) .nil), hk, hms, by simp only [tupOf]; rw [hq]; exact hb, by simp only [tupOf]; rw [hq]; exact hR⟩⟩
theorem refsBs_flat (n : Nat) : ∀ xs : List D, PV.refsBs n (flat xs) = true
 | [] => rfl
 | x :: xs => by
  have hap : ∀ (ds : List D) (ps : List PV), PV.refsBs n ps = true → PV.refsBs n (ds.map PV.d ++ ps) = true := by
   intro ds ps hps
   induction ds with
   | nil => simpa using hps
   | cons d ds ih => simp [PV.refsBs, PV.refsB, ih]
  rw [flat_cons]; exact hap _ _ (refsBs_flat n xs)
set_option maxHeartbeats 8000000 in
theorem c101r (op num : Int) (name : ByteArray) (ks : List Tr) (l : KL) (hlim : ks.length ≤ 1000000) (hL : KLens l)
 (hcb : ∀ (z : Nat) (k : Tr) (inner : KL), ks[z]? = some k → KLens inner → Gm Tryz.prog 195 [.d (.int .i64 (z : Nat)), .d k.d, .ref 0 0, .ref 1 0, .ref 2 0] [[.d (.int .i64 op), .d (.str name), .d (.int .i64 num), .d (.sl (ks.map Tr.d))], [.d (knD inner)], [.d (knD l)]] (.d (stepT op num ks l z inner k).1.d) [[.d (.int .i64 op), .d (.str name), .d (.int .i64 num), .d (.sl (ks.map Tr.d))], [.d (knD (stepT op num ks l z inner k).2)], [.d (knD l)]]) : Gm Tryz.prog 101 [.d (.sl (ks.map Tr.d)), .fn (.func 195) [] [.ref 0 0, .ref 1 0, .ref 2 0]] [[.d (.int .i64 op), .d (.str name), .d (.int .i64 num), .d (.sl (ks.map Tr.d))], [.d (knD l)], [.d (knD l)]] (.rsl 3 0 ks.length 4) [[.d (.int .i64 op), .d (.str name), .d (.int .i64 num), .d (.sl (ks.map Tr.d))], [.d (knD (endK op num ks l 0 l ks))], [.d (knD l)], flat ((Tr.puts op num ks l 0 l ks).map Tr.d)] := by
 refine gm_body (rvs := [.tmp 4]) 3 [(0, .d (.sl (ks.map Tr.d))), (1, .fn (.func 195) [] [.ref 0 0, .ref 1 0, .ref 2 0])] Tryz.func101 Tryz.ntmps101 Tryz.results101 (fun S0 O0 w0 m0 hm0 => ?_)
 refine Z240 ?_;refine Z233 ?_
 refine g_nilrow 5 4 ?_
 refine Z0 ?_;refine Z273 ?_
 refine g_loop (α := Nat × List Tr × KL) (fun z => ⟨[(10, .d (.int .i64 (z.1 : Nat))), (9, .d (.int .i64 ((ks.map Tr.d).length : Nat))), (8, .d (.sl (ks.map Tr.d))), (5, .rsl 3 0 z.1 4), (1, .fn (.func 195) [] [.ref 0 0, .ref 1 0, .ref 2 0])], [[.d (.int .i64 op), .d (.str name), .d (.int .i64 num), .d (.sl (ks.map Tr.d))], [.d (knD z.2.2)], [.d (knD l)], flat (z.2.1.map Tr.d)]⟩) (fun z => ks.length - z.1) (fun z => z.1 ≤ ks.length ∧ z.2.1.length = z.1 ∧ KLens z.2.2 ∧ z.2.1 ++ Tr.puts op num ks l z.1 z.2.2 (ks.drop z.1) = Tr.puts op num ks l 0 l ks ∧ endK op num ks l z.1 z.2.2 (ks.drop z.1) = endK op num ks l 0 l ks) (0, [], l) ⟨Nat.zero_le _, rfl, hL, rfl, rfl⟩ (fun z hz Q' hn0 he0 hr0 => ?_) (le_of)
 obtain ⟨z, acc, inner⟩ := z
 obtain ⟨hz1, hz2, hz3, hz4, hz5⟩ := hz
 replace hz1 : z ≤ ks.length := hz1
 replace hz2 : acc.length = z := hz2
 replace hz3 : KLens inner := hz3
 replace hz4 : acc ++ Tr.puts op num ks l z inner (ks.drop z) = Tr.puts op num ks l 0 l ks := hz4
 replace hz5 : endK op num ks l z inner (ks.drop z) = endK op num ks l 0 l ks := hz5
 have hzl : (acc.map Tr.d).length = z := by rw [List.length_map]; exact hz2
 refine Z248 ?_
 refine gC ?_ ?_ <;> intro hb0
 ·
  have hlt : z < ks.length := by simpa using hb0
  obtain ⟨k, hk⟩ : ∃ k, ks[z]? = some k := ⟨_, gE hlt⟩
  have hmem := mG hk
  have hxd := Tr.ds_get hk
  have hxa := hxd
  obtain ⟨kop, knm, knu, kks, hka⟩ := k.d_agg
  rw [hka] at hxa
  have hfa := (stepT op num ks l z inner k).1.d_eta
  refine Z268 ?_;refine Z258 ?_;refine Z29 ?_;refine Z1 ?_;refine Z21 ?_
  refine gF (hrf := by simp only [List.all_cons, List.all_nil, PV.refsBs, PV.refsB, refsBs_flat, Bool.and_true, Bool.and_self]) 4 [[.d (.int .i64 op), .d (.str name), .d (.int .i64 num), .d (.sl (ks.map Tr.d))], [.d (knD inner)], [.d (knD l)], flat (acc.map Tr.d)] (.agg [.int .i64 kop, .str knm, .int .i64 knu, .sl (kks.map Tr.d)]) rfl ?_
  refine Z162 ?_;refine Z231 ?_;refine Z0 ?_;refine Z8 ?_
  refine g_callm [0, 1, 2] rfl (hfa ▸ hka ▸ hcb z k inner hk hz3) ?_
  refine Z176 ?_
  refine sv (hs := rfl) rfl (y_appendR (xs := acc.map Tr.d) (n' := z + 1) u22 inf27 (Tr.ds_cells acc) hzl (hbm := by show m0.length ≤ 3; omega) (hlen := by rw [hzl]; simp [lim]; omega) (hB := by rw [hzl]; simp [lim]; omega)) ?_
  rw [← hfa, show acc.map Tr.d ++ [(stepT op num ks l z inner k).1.d] = (acc ++ [(stepT op num ks l z inner k).1]).map Tr.d from by rw [List.map_append]; rfl]
  refine Z1 ?_;refine Z222 ?_;refine Z209 ?_;refine Z285 ?_
  refine hn0 _ (z + 1, acc ++ [(stepT op num ks l z inner k).1], (stepT op num ks l z inner k).2) ⟨by show z + 1 ≤ ks.length; omega, by show (acc ++ [_]).length = z + 1; rw [List.length_append, List.length_singleton]; omega, hL.step hz3 z k, by show (acc ++ [_]) ++ _ = _; rw [List.append_assoc, ← hz4, puts_drop hk]; rfl, by show endK op num ks l (z + 1) _ _ = _; rw [← hz5, endK_drop hk]⟩ (by show ks.length - (z + 1) < ks.length - z; omega) le_of
 have hge : z = ks.length := by
  have : ¬ (z : Int) < (ks.map Tr.d).length := by simpa using hb0
  rw [List.length_map] at this
  omega
 refine Z259 ?_
 subst hge
 rw [List.drop_length, Tr.puts, List.append_nil] at hz4
 rw [List.drop_length, endK] at hz5
 refine Z0 ?_;refine Z228 ?_
 refine finkn [[.d (.int .i64 op), .d (.str name), .d (.int .i64 num), .d (.sl (ks.map Tr.d))], [.d (knD inner)], [.d (knD l)], flat (acc.map Tr.d)] (by simp) ?_ (by exact J0) rfl rfl (by simp) (by repeat (first | exact MSub.nil | (refine MSub.cons (by first | exact CSub_flat _ _ | (repeat (first | exact CSub.nil | refine CSub.cons (by first | exact .inl rfl | exact .inr (.inl rfl)) rfl ?_))) ?_)))
 exact ⟨rfl, by rw [hz4, hz5]⟩
set_option maxHeartbeats 8000000 in
theorem c110r (op num : Int) (name : ByteArray) (ks : List Tr) (l : KL) (hlim : ks.length ≤ 1000000) (hks : ∀ k ∈ ks, k.Lens) (hL : KLens l) (h4 : ¬ op = 4) (h67 : ¬ op = 67) : Gm Tryz.prog 110 [.d (.agg [.int .i64 op, .str name, .int .i64 num, .sl (ks.map Tr.d)]), .d (knD l)] [] (.agg [.d (.int .i64 op), .d (.str name), .d (.int .i64 num), .rsl 4 0 ks.length 4]) [[.undef, .undef, .undef, .undef], [.undef], [.undef, .undef, .undef, .undef], [.undef], flat ((Tr.puts op num ks l 0 l ks).map Tr.d)] := by
 have hI : ∀ k ∈ ks, ∀ K : KL, KLens K → Pf Tryz.prog 110 [k.d, knD K] (.d (k.put K).d) := fun k hk K hK => c110 k (hks k hk) K hK
 refine gm_body (rvs := [.cell 4 27]) 0 [(0, .d (.agg [.int .i64 op, .str name, .int .i64 num, .sl (ks.map Tr.d)])), (1, .d (knD l))] Tryz.func110 Tryz.ntmps110 Tryz.results110 (fun S0 O0 w0 m0 hm0 => ?_)
 refine Z232 ?_
 refine sv rfl (y_box (hcs := by rw [knD_cof])) ?_
 refine Z29 ?_;refine Z11 ?_;refine Z207 ?_;refine Z54 ?_;refine Z151 ?_;refine Z260 ?_
 refine gC ?_ ?_ <;> intro hb0
 · exact absurd hb0 (by simpa using h4)
 refine Z278 ?_
 refine gC ?_ ?_ <;> intro hb1
 · exact absurd hb1 (by simpa using h67)
 refine Z91 ?_;refine Z106 ?_
 refine sv rfl (y_alloc zr141) ?_
 refine sa rfl (dS (hps := knD_cof l) sz141) ?_
 refine Z30 ?_;refine Z131 ?_;refine Z14 ?_;refine Z82 ?_
 refine sv rfl (y_load_leaf u22) ?_
 refine vq rfl (q_makeFunc (xs := []) (ys := [.tmp 2, .tmp 6, .tmp 3])) ?_
 refine g_callmn [0, 3, 1] (.rsl 4 0 ks.length 4) [[.d (.int .i64 op), .d (.str name), .d (.int .i64 num), .d (.sl (ks.map Tr.d))], [.d (knD l)], [.d (.int .i64 0), .d (.str ⟨#[]⟩), .d (.int .i64 0), .nils], [.d (knD (endK op num ks l 0 l ks))], flat ((Tr.puts op num ks l 0 l ks).map Tr.d)] rfl (c101r op num name ks l hlim hL (c195 op num name ks l hlim hL hks hI)) ?_
 refine Z82 ?_;refine Z175 ?_;refine Z5 ?_;refine Z60 ?_;refine Z21 ?_;refine Z7 ?_
 refine fincn [[.undef, .undef, .undef, .undef], [.undef], [.undef, .undef, .undef, .undef], [.undef], flat ((Tr.puts op num ks l 0 l ks).map Tr.d)] sz27 u27 (by simp) ?_ (by exact J0) rfl rfl rfl (by exact oR rfl) rfl rfl (by simp) (by repeat (first | exact MSub.nil | (refine MSub.cons (by first | exact CSub_flat _ _ | (repeat (first | exact CSub.nil | refine CSub.cons (by first | exact .inl rfl | exact .inr (.inl rfl)) rfl ?_))) ?_)))
 exact ⟨rfl, rfl⟩
end
section
theorem all_zip {α : Type} (q : α → Bool) : ∀ (xs : List α), (xs.zipIdx.all fun x => q x.1) = xs.all q := by
 intro xs
 rw [Bool.eq_iff_iff, List.all_eq_true, List.all_eq_true]
 constructor
 · intro h x hx
   obtain ⟨i, hi⟩ := List.getElem?_of_mem hx
   exact h (x, i) (List.mem_zipIdx_iff_getElem?.2 hi)
 · rintro h ⟨x, i⟩ hx
   exact h x (mG (List.mem_zipIdx_iff_getElem?.1 hx))
def allE (ks : List Tr) : Bool := ks.all fun k => isExprB k.op
theorem kidsB_e {s : ByteArray} (hs : ∀ i, i < s.size → s[i]! = 101) (ks : List Tr) : kidsB ks s = (decide (ks.length = s.size) && allE ks) := by
 unfold kidsB
 by_cases h : ks.length = s.size
 · rw [decide_eq_true h, Bool.true_and, Bool.true_and, allE, ← all_zip (fun k : Tr => isExprB k.op)]
   rw [Bool.eq_iff_iff, List.all_eq_true, List.all_eq_true]
   have hk : ∀ x ∈ ks.zipIdx, kindOk ((s[x.2]!).toNat : Nat) x.1.op = isExprB x.1.op := by
    rintro ⟨k, i⟩ hx
    have hi := (lG (List.mem_zipIdx_iff_getElem?.1 hx))
    show kindOk ((s[i]!).toNat : Nat) k.op = _
    rw [hs i (by omega)]
    rfl
   constructor
   · intro h x hx; rw [← hk x hx]; exact h x hx
   · intro h x hx; rw [hk x hx]; exact h x hx
 · rw [decide_eq_false h, Bool.false_and, Bool.false_and]
theorem e1s : ∀ i, i < e1.size → e1[i]! = 101 := by decide
theorem e2s : ∀ i, i < ee.size → ee[i]! = 101 := by decide
theorem e3s : ∀ i, i < eee.size → eee[i]! = 101 := by decide
theorem exs (n : Nat) : ∀ i, i < (eee.extract 0 n).size → (eee.extract 0 n)[i]! = 101 := by
 intro i hi
 have h3 : eee.size = 3 := rfl
 rw [ByteArray.size_extract] at hi
 have hlt : i < 3 := by omega
 have hn : i < n := by omega
 have hi' : i < (eee.extract 0 n).size := by rw [ByteArray.size_extract]; exact hi
 rw [getElem!_pos (eee.extract 0 n) i hi', ByteArray.getElem_extract]
 have h := e3s i (by rw [h3]; exact hlt)
 rw [getElem!_pos eee i (by rw [h3]; exact hlt)] at h
 simpa using h
def Kin (f : Tr → Tr) (ks : List Tr) : Prop := ∀ k ∈ ks, isExprB (f k).op = isExprB k.op ∧ ((f k).op == 30) = (k.op == 30)
variable {f : Tr → Tr} {ks : List Tr}
theorem Kin.allE (h : Kin f ks) : allE (ks.map f) = allE ks := by
 unfold Go.Proofs.YtklkbfpjimeaoaaGreat.allE
 rw [Bool.eq_iff_iff, List.all_map, List.all_eq_true, List.all_eq_true]
 constructor
 · intro h1 k hk; rw [← (h k hk).1]; exact h1 k hk
 · intro h1 k hk; show isExprB (f k).op = true; rw [(h k hk).1]; exact h1 k hk
theorem Kin.kidsB (h : Kin f ks) {s : ByteArray} (hs : ∀ i, i < s.size → s[i]! = 101) : kidsB (ks.map f) s = kidsB ks s := by
 rw [kidsB_e hs, kidsB_e hs, h.allE, List.length_map]
theorem Kin.every (h : Kin f ks) : everyB (fun op => isExprB op || op == 30) (ks.map f) = everyB (fun op => isExprB op || op == 30) ks := by
 unfold everyB
 rw [List.any_map]
 congr 1
 rw [Bool.eq_iff_iff, List.any_eq_true, List.any_eq_true]
 have he : ∀ k ∈ ks, ((fun k : Tr => !(isExprB k.op || k.op == 30)) ∘ f) k = !(isExprB k.op || k.op == 30) := fun k hk => by
  show (!(isExprB (f k).op || (f k).op == 30)) = _
  rw [(h k hk).1, (h k hk).2]
 constructor
 · rintro ⟨k, hk, h1⟩; exact ⟨k, hk, by rw [← he k hk]; exact h1⟩
 · rintro ⟨k, hk, h1⟩; exact ⟨k, hk, by rw [he k hk]; exact h1⟩
theorem Kin.forms (h : Kin f ks) {op num : Int} {nm : ByteArray} {ts : List ByteArray} (hs : ∀ s ∈ ts, ∀ i, i < s.size → s[i]! = 101) : formsB ts (.mk op nm num (ks.map f)) = formsB ts (.mk op nm num ks) := by
 unfold formsB
 rw [Bool.eq_iff_iff, List.any_eq_true, List.any_eq_true]
 constructor
 · rintro ⟨s, h1, h2⟩; exact ⟨s, h1, by rw [Tr.kids_mk] at h2 ⊢; rw [← h.kidsB (hs s h1)]; exact h2⟩
 · rintro ⟨s, h1, h2⟩; exact ⟨s, h1, by rw [Tr.kids_mk] at h2 ⊢; rw [h.kidsB (hs s h1)]; exact h2⟩
theorem Kin.tab (h : Kin f ks) {op num : Int} {nm : ByteArray} : ∀ x ∈ shapeTab, isExprB x.1 = true → x.2.ok (.mk op nm num (ks.map f)) = x.2.ok (.mk op nm num ks) := by
 intro x hx he
 simp only [shapeTab, List.mem_cons, List.not_mem_nil, or_false] at hx
 rcases hx with rfl | rfl | rfl | rfl | rfl | rfl | rfl | rfl | rfl | rfl | rfl | rfl | rfl | rfl | rfl | rfl | rfl | rfl | rfl | rfl | rfl | rfl | rfl | rfl | rfl | rfl | rfl | rfl | rfl | rfl | rfl | rfl | rfl <;> first | exact absurd he (by decide) | exact h.forms (by decide) | (show rule154 _ = rule154 _; unfold rule154; rw [Tr.kids_mk, Tr.kids_mk, List.length_map]; rfl)
variable {op : Int}
theorem shGet_tab {s : Sh} (h : shGet op = some s) : ∃ x ∈ shapeTab, x.1 = op ∧ x.2 = s := by
 unfold shGet at h
 cases hf : shapeTab.find? (fun x => decide (x.1 = op)) with
 | none => rw [hf] at h; cases h
 | some x =>
  rw [hf] at h
  injection h with h
  exact ⟨x, List.mem_of_find?_eq_some hf, by simpa using List.find?_some hf, h⟩
theorem ne_of_expr {k : Int} (ho : isExprB op = true) (hk : isExprB k = false) : (op == k) = false := by
 rw [beq_eq_false_iff_ne]
 rintro rfl
 rw [ho] at hk
 cases hk
theorem Kin.right (h : Kin f ks) {op num : Int} {nm : ByteArray} (ho : isExprB op = true) : rightB (.mk op nm num (ks.map f)) = rightB (.mk op nm num ks) := by
 have h2 : otherB (.mk op nm num (ks.map f)) = otherB (.mk op nm num ks) := by
  rw [otherB, otherB, h.every, h.kidsB (exs _), h.kidsB e2s, h.kidsB e1s, List.length_map, ne_of_expr ho (show isExprB 30 = false from rfl), ne_of_expr ho (show isExprB 50 = false from rfl)]
  simp only [Bool.false_eq_true, if_false]
 rw [rightB, rightB, h2]
 cases hs : shGet op with
 | none => rfl
 | some s =>
  obtain ⟨x, hx, rfl, rfl⟩ := shGet_tab hs
  have ht := h.tab (op := x.1) (num := num) (nm := nm) x hx ho
  obtain ⟨xo, nms, nb, g, caps, ok⟩ := x
  dsimp only at ht ⊢
  rw [ht]
theorem allE_mem (h : allE ks = true) : ∀ k ∈ ks, isExprB k.op = true := List.all_eq_true.1 h
theorem forms_kids {ts : List ByteArray} {t : Tr} (hs : ∀ s ∈ ts, ∀ i, i < s.size → s[i]! = 101) (h : formsB ts t = true) : ∀ k ∈ t.kids, isExprB k.op = true := by
 unfold formsB at h
 obtain ⟨s, h1, h2⟩ := List.any_eq_true.1 h
 rw [kidsB_e (hs s h1), Bool.and_eq_true] at h2
 exact allE_mem h2.2
theorem tab_kids : ∀ x ∈ shapeTab, isExprB x.1 = true → ∀ t : Tr, x.2.ok t = true → ∀ k ∈ t.kids, isExprB k.op = true := by
 intro x hx he t ht
 simp only [shapeTab, List.mem_cons, List.not_mem_nil, or_false] at hx
 rcases hx with rfl | rfl | rfl | rfl | rfl | rfl | rfl | rfl | rfl | rfl | rfl | rfl | rfl | rfl | rfl | rfl | rfl | rfl | rfl | rfl | rfl | rfl | rfl | rfl | rfl | rfl | rfl | rfl | rfl | rfl | rfl | rfl | rfl <;> first | exact absurd he (by decide) | exact forms_kids (by decide) ht | (
  replace ht : rule154 t = true := ht
  unfold rule154 at ht
  rw [Bool.and_eq_true, beq_iff_eq] at ht
  have h0 : t.kids = [] := List.length_eq_zero_iff.1 (by omega)
  rw [h0]; simp)
variable {num : Int} {nm : ByteArray}
theorem expr_kid (hr : rightB (.mk op nm num ks) = true) (ho : isExprB op = true) : ∀ k ∈ ks, isExprB k.op = true ∨ k.op = 30 := by
 rw [rightB] at hr
 split at hr
 · rename_i h2
   rw [otherB, ne_of_expr ho (show isExprB 3 = false from rfl), ne_of_expr ho (show isExprB 30 = false from rfl), ne_of_expr ho (show isExprB 50 = false from rfl)] at hr
   simp only [Bool.false_eq_true, if_false] at hr
   split at hr
   · simp only [Bool.and_eq_true, beq_iff_eq] at hr
     have h0 : ks = [] := List.length_eq_zero_iff.1 (by omega)
     rw [h0]; simp
   · split at hr
     · simp only [Bool.and_eq_true] at hr
       intro k hk
       have h3 := hr.2
       unfold everyB at h3
       rw [Bool.not_eq_true', List.any_eq_false] at h3
       have h4 := h3 k hk
       cases he : isExprB k.op with
       | true => exact .inl rfl
       | false => exact .inr (by simpa [he] using h4)
     · split at hr
       · simp only [Bool.and_eq_true] at hr
         rw [kidsB_e (exs _), Bool.and_eq_true] at hr
         exact fun k hk => .inl (allE_mem hr.2.2 k hk)
       · split at hr
         · dsimp only at hr
           split at hr
           · rw [kidsB_e e2s, Bool.and_eq_true, Bool.and_eq_true] at hr
             exact fun k hk => .inl (allE_mem hr.2.2 k hk)
           · rw [kidsB_e e1s] at hr
             simp only [Bool.and_eq_true] at hr
             exact fun k hk => .inl (allE_mem hr.2.2 k hk)
         · cases hr
 · cases hs : shGet op with
   | none => rw [hs] at hr; cases hr
   | some s =>
    rw [hs] at hr
    obtain ⟨x, hx, rfl, rfl⟩ := shGet_tab hs
    have ht := tab_kids x hx ho (.mk x.1 nm num ks)
    obtain ⟨xo, nms, nb, g, caps, ok⟩ := x
    dsimp only at hr ht
    split at hr
    · cases hr
    · rcases nms with _ | y
      · dsimp only at hr
        split at hr
        · cases hr
        · exact fun k hk => .inl (ht hr k hk)
      · dsimp only at hr
        split at hr
        · cases hr
        · exact fun k hk => .inl (ht hr k hk)
theorem type_kids (hr : rightB (.mk 30 nm num ks) = true) : ks = [] := by
 have h1 : rightB (.mk 30 nm num ks) = typedB (.mk 30 nm num ks) := rfl
 rw [h1, typedB] at hr
 simp only [Bool.and_eq_true, beq_iff_eq] at hr
 exact List.length_eq_zero_iff.1 (by omega)
theorem name_kids (hr : rightB (.mk 4 nm num ks) = true) : ks = [] := by
 have h1 : rightB (.mk 4 nm num ks) = ((nameB nm && num == 0) && (ks.length : Int) == 0) := rfl
 rw [h1] at hr
 simp only [Bool.and_eq_true, beq_iff_eq] at hr
 exact List.length_eq_zero_iff.1 (by omega)
def EK (op : Int) : Prop := isExprB op = true ∨ op = 30
theorem EK.ne {k : Int} (h : EK op) (h1 : isExprB k = false) (h2 : k ≠ 30) : (op == k) = false := by
 rcases h with h | rfl
 · exact ne_of_expr h h1
 · rw [beq_eq_false_iff_ne]; omega
variable {l : KL}
theorem puts_map {all : List Tr} (h : EK op) : ∀ (ks : List Tr) (i : Nat), (∀ k ∈ ks, EK k.op) → Tr.puts op num all l i l ks = ks.map fun k => k.put l := by
 intro ks
 induction ks with
 | nil => intro i _; rw [Tr.puts]; rfl
 | cons k r ih =>
  intro i hk
  have hl : loopsB op num all.length = false := by
   unfold loopsB
   rw [h.ne (k := 54) rfl (by decide), h.ne (k := 55) rfl (by decide), h.ne (k := 56) rfl (by decide)]; rfl
  have hp : keepsB op num all.length i k = false := by
   unfold keepsB
   rw [hl, h.ne (k := 51) rfl (by decide)]; rfl
  rw [Tr.puts, hp, if_neg (by decide), hl, Bool.false_and, if_neg (by decide), (hk k (by simp)).ne (k := 50) rfl (by decide), if_neg (by decide), ih (i + 1) fun x hx => hk x (by simp [hx])]
  rfl
theorem valN_l {l' : KL} {vs : List (Option Tr)} {ss : List SP} (h : op ≠ 4) : valN l op nm num ks vs ss = valN l' op nm num ks vs ss := by
 unfold valN
 rw [show (op == 4) = false from beq_eq_false_iff_ne.2 h]
 rfl
theorem valN_k {ks' : List Tr} {vs : List (Option Tr)} {ss : List SP} (h : op ≠ 1) (h2 : op ≠ 2) : valN l op nm num ks vs ss = valN l op nm num ks' vs ss := by
 unfold valN
 simp only [show (op == 1 || op == 2) = false from by rw [beq_eq_false_iff_ne.2 h, beq_eq_false_iff_ne.2 h2]; rfl, Bool.false_eq_true, if_false]
theorem sizes_eq : ∀ (ks : List Tr) (f : Tr → Tr), (∀ k ∈ ks, (f k).size = k.size) → Tr.sizes (ks.map f) = Tr.sizes ks
 | [], f, h => rfl
 | k :: r, f, h => by
  rw [List.map_cons, Tr.sizes, Tr.sizes, h k (by simp), sizes_eq r f fun x hx => h x (by simp [hx])]
theorem deeps_eq : ∀ (ks : List Tr) (f : Tr → Tr) (d : Int), (∀ k ∈ ks, (f k).depth = k.depth) → Tr.deeps (ks.map f) d = Tr.deeps ks d
 | [], f, d, h => rfl
 | k :: r, f, d, h => by
  rw [List.map_cons, Tr.deeps, Tr.deeps, h k (by simp), deeps_eq r f _ fun x hx => h x (by simp [hx])]
theorem ValOk.ex {v : Tr} (h : ValOk v) : isExprB v.op = true ∧ (v.op == 30) = false := by
 rcases h with ⟨n, _, rfl⟩ | ⟨b, rfl⟩
 · exact ⟨rfl, rfl⟩
 · exact ⟨rfl, rfl⟩
theorem put_facts {K : KL} (hK : KOk K) : ∀ n (t : Tr), t.size ≤ n → t.shaped = true → t.Ok → EK t.op →
 (t.put K).size = t.size ∧ (t.put K).depth = t.depth ∧ (t.put K).shaped = true ∧ (t.put K).Ok ∧ (isExprB (t.put K).op = isExprB t.op ∧ ((t.put K).op == 30) = (t.op == 30)) ∧ (t.put K).value [] = t.value K ∧ (t.put K).span [] = t.span K := by
 intro n
 induction n with
 | zero => intro t h; exact absurd t.size_pos (by omega)
 | succ n ih =>
  intro t hsz hsh hok hek
  obtain ⟨op, nm, num, ks⟩ := t
  replace hek : EK op := hek
  obtain ⟨hr, hks⟩ := Tr.shaped_mk hsh
  by_cases h4 : op = 4
  · subst h4
    obtain rfl := name_kids hr
    have hp : (Tr.mk 4 nm num []).put K = match findK nm K with | some v => v | none => .mk 4 nm num [] := by rw [Tr.put, if_pos (show ((4 : Int) == 4) = true from rfl)]; rfl
    have hv : (Tr.mk 4 nm num []).value K = findK nm K := rfl
    have hsp : (Tr.mk 4 nm num []).span K = noSP := rfl
    rw [hp, hv, hsp]
    cases hf : findK nm K with
    | none => exact ⟨rfl, rfl, hsh, hok, ⟨rfl, rfl⟩, rfl, rfl⟩
    | some v =>
     have ho := findK_ok hK v hf
     have hd := Tr.depth_bd v
     have h1 := ho.one
     have e1 : (Tr.mk 4 nm num []).size = 1 := rfl
     have e2 : (Tr.mk 4 nm num []).depth = 1 := rfl
     refine ⟨by rw [e1]; exact h1, by rw [e2]; show v.depth = 1; omega, ho.shaped, ho.okT, ⟨ho.ex.1, ho.ex.2⟩, (ho.self []).1, (ho.self []).2⟩
  · have hkk : ∀ k ∈ ks, EK k.op := by
     rcases hek with h | rfl
     · exact expr_kid hr h
     · obtain rfl := type_kids hr
       simp
    have hp : (Tr.mk op nm num ks).put K = .mk op nm num (ks.map fun k => k.put K) := by
     rw [Tr.put, if_neg (by simpa using h4), hek.ne (k := 67) rfl (by decide), if_neg (by decide), puts_map hek ks 0 hkk]
    have hI : ∀ k ∈ ks, _ := fun k hk => ih k (by have := Tr.size_mem hk; rw [Tr.size] at hsz; omega) (hks k hk) (Tr.kids_ok hok k hk) (hkk k hk)
    have hkin : Kin (fun k => k.put K) ks := fun k hk => (hI k hk).2.2.2.2.1
    have hvs : Tr.values [] (ks.map fun k => k.put K) = Tr.values K ks := by
     rw [values_get, values_get, List.map_map]
     exact List.map_congr_left fun k hk => (hI k hk).2.2.2.2.2.1
    have hss : Tr.spans [] (ks.map fun k => k.put K) = Tr.spans K ks := by
     rw [spans_get, spans_get, List.map_map]
     exact List.map_congr_left fun k hk => (hI k hk).2.2.2.2.2.2
    rw [hp]
    refine ⟨by rw [Tr.size, Tr.size, sizes_eq _ _ fun k hk => (hI k hk).1], by rw [Tr.depth, Tr.depth, deeps_eq _ _ _ fun k hk => (hI k hk).2.1], ?_, ?_, ⟨rfl, rfl⟩, ?_, ?_⟩
    · rw [Tr.shaped, Tr.shapeds_all, Bool.and_eq_true, Bool.not_eq_true', List.any_eq_false]
      constructor
      · rcases hek with h | rfl
        · rw [hkin.right h]; exact hr
        · obtain rfl := type_kids hr
          exact hr
      · intro x hx
        obtain ⟨k, hk, rfl⟩ := List.mem_map.1 hx
        rw [(hI k hk).2.2.1]; decide
    · cases hok with | mk h1 h2 h3 h4 h5 =>
      refine .mk h1 h2 h3 (by rw [List.length_map]; exact h4) fun x hx => ?_
      obtain ⟨k, hk, rfl⟩ := List.mem_map.1 hx
      exact (hI k hk).2.2.2.1
    · rw [Tr.value, Tr.value, hvs, hss]
      by_cases h1 : op = 1
      · subst h1
        obtain ⟨rfl, rfl⟩ := lit1 hsh
        rfl
      · by_cases h2 : op = 2
        · subst h2
          obtain ⟨rfl, rfl, _⟩ := lit2 hsh
          rfl
        · rw [valN_l (l' := K) h4, valN_k h1 h2]
    · rw [Tr.span, Tr.span, hvs, hss]
theorem kl_snoc (l : List (ByteArray × Tr)) (c : ByteArray × Tr) : kl (l ++ [c]) = (c.1, some c.2) :: kl l := by
 unfold kl
 rw [List.map_append, List.reverse_append]; rfl
end
section
def bareB (t : Tr) : Bool := decide (t.nm = ⟨#[]⟩) && t.nu == 0
end
section
def textR : Tr → Bool
 | .mk _ name num ks => ((num == 0 && (ks.length : Int) == 0) && decide ((name.size : Int) ≤ 200)) && plainTx name
end
section
def loopRB : Tr → Bool
 | .mk op name num ks => decide (name = ⟨#[]⟩) && rule157 (.mk op name num ks)
theorem opK_get {ks : List Tr} {i : Nat} {k : Tr} (h : ks[i]? = some k) : opK i ks = k.op := by unfold opK; rw [h]
end
section
theorem shGet31 : shGet 31 = some ⟨none, false, 229, [.ptr (.sl ([⟨#[101]⟩].map .str))], (formsB [⟨#[101]⟩])⟩ := rfl
theorem shGet67 : shGet 67 = some ⟨(some (⟨#[43]⟩, [⟨#[42]⟩, ⟨#[109, 105, 110]⟩, ⟨#[109, 97, 120]⟩, ⟨#[38, 38]⟩, ⟨#[124, 124]⟩])), false, 229, [.ptr (.sl ([⟨#[110]⟩].map .str))], (formsB [⟨#[110]⟩])⟩ := rfl
theorem shGet51 : shGet 51 = some ⟨(some (⟨#[61]⟩, [⟨#[43, 61]⟩, ⟨#[45, 61]⟩, ⟨#[42, 61]⟩])), false, 155, [], rule155⟩ := rfl
theorem shGet52 : shGet 52 = some ⟨none, false, 229, [.ptr (.sl ([⟨#[101, 98]⟩, ⟨#[101, 98, 98]⟩].map .str))], (formsB [⟨#[101, 98]⟩, ⟨#[101, 98, 98]⟩])⟩ := rfl
theorem shGet53 : shGet 53 = some ⟨none, false, 229, [.ptr (.sl ([⟨#[101, 98]⟩].map .str))], (formsB [⟨#[101, 98]⟩])⟩ := rfl
theorem shGet60 : shGet 60 = some ⟨none, false, 229, [.ptr (.sl ([⟨#[101, 98]⟩].map .str))], (formsB [⟨#[101, 98]⟩])⟩ := rfl
theorem shGet54 : shGet 54 = some ⟨none, true, 157, [], rule157⟩ := rfl
theorem shGet56 : shGet 56 = some ⟨none, true, 157, [], rule157⟩ := rfl
theorem shGet55 : shGet 55 = some ⟨none, true, 157, [], rule157⟩ := rfl
theorem shGet57 : shGet 57 = some ⟨none, false, 229, [.ptr (.sl ([⟨#[98]⟩].map .str))], (formsB [⟨#[98]⟩])⟩ := rfl
theorem shGet59 : shGet 59 = some ⟨none, false, 229, [.ptr (.sl ([⟨#[98]⟩].map .str))], (formsB [⟨#[98]⟩])⟩ := rfl
theorem shGet58 : shGet 58 = some ⟨none, false, 158, [], rule158⟩ := rfl
theorem shGet61 : shGet 61 = some ⟨none, false, 229, [.ptr (.sl ([⟨#[]⟩, ⟨#[101]⟩].map .str))], (formsB [⟨#[]⟩, ⟨#[101]⟩])⟩ := rfl
theorem shGet62 : shGet 62 = some ⟨none, false, 229, [.ptr (.sl ([⟨#[101]⟩].map .str))], (formsB [⟨#[101]⟩])⟩ := rfl
theorem shGet65 : shGet 65 = some ⟨none, false, 229, [.ptr (.sl ([⟨#[101]⟩].map .str))], (formsB [⟨#[101]⟩])⟩ := rfl
theorem shGet63 : shGet 63 = some ⟨none, false, 161, [], rule161⟩ := rfl
theorem shGet64 : shGet 64 = some ⟨none, false, 162, [], (fun t => everyB (fun op => isExprB op || op == 3) t.kids)⟩ := rfl
theorem shGet66 : shGet 66 = some ⟨none, false, 164, [], (fun t => everyB isStmtB t.kids)⟩ := rfl
def nmOk : Option (ByteArray × List ByteArray) → ByteArray → Bool
 | none, nm => decide (nm = ⟨#[]⟩)
 | some x, nm => hasB (x.1 :: x.2) nm
theorem right_tab {op num : Int} {nm : ByteArray} {ks : List Tr} {s : Sh} (h2 : (otherB (.mk op nm num ks)).2 = false) (hs : shGet op = some s) (h0 : (op == 0) = false) : rightB (.mk op nm num ks) = (((s.num || num == 0) && nmOk s.names nm) && s.ok (.mk op nm num ks)) := by
 obtain ⟨nms, nb, g, caps, ok⟩ := s
 rw [rightB, if_neg (by rw [h2]; decide), hs]
 dsimp only
 rw [h0, Bool.false_or]
 rcases nms with _ | x
 · dsimp only [nmOk]
   by_cases hn : nm = ⟨#[]⟩
   · cases nb <;> cases hz : (num == 0) <;> simp [bne, hn, hz]
   · cases nb <;> cases hz : (num == 0) <;> simp [bne, hn, hz]
 · dsimp only [nmOk]
   by_cases hh : hasB (x.1 :: x.2) nm = true
   · cases nb <;> cases hz : (num == 0) <;> simp [bne, hz, hh]
   · rw [Bool.not_eq_true] at hh
     cases nb <;> cases hz : (num == 0) <;> simp [bne, hz, hh]
theorem kids0 (ks : List Tr) : kidsB ks ⟨#[]⟩ = ((ks.length : Int) == 0) := by
 cases ks with
 | nil => rfl
 | cons k r =>
  unfold kidsB
  rw [decide_eq_false (by show ¬ (r.length + 1 = 0); omega), Bool.false_and]
  symm; rw [beq_eq_false_iff_ne, List.length_cons]; omega
theorem J15 {A : Prop} (h : A := by simp only [nmOk, formsB, List.any_cons, List.any_nil, Bool.or_false, Bool.true_or, Bool.false_or, Bool.true_and, bareB, Tr.nm_mk, Tr.nu_mk, Tr.kids_mk, kids0, rule154, rule155, rule158, rule161, loopRB, hasB]; try first | rfl | ac_rfl) : A := h
theorem right31 (num : Int) (name : ByteArray) (ks : List Tr) : rightB (.mk 31 name num ks) = (bareB (.mk 31 name num ks) && kidsB ks ⟨#[101]⟩) := by
 rw [right_tab (s := ⟨_, _, _, _, _⟩) rfl shGet31 rfl]
 exact J15
theorem right51 (num : Int) (name : ByteArray) (ks : List Tr) : rightB (.mk 51 name num ks) = (((hasB [⟨#[61]⟩, ⟨#[43, 61]⟩, ⟨#[45, 61]⟩, ⟨#[42, 61]⟩] name && num == 0) && kidsB ks ⟨#[101, 101]⟩) && (opK 0 ks == 4 || opK 0 ks == 12)) := by
 rw [right_tab (s := ⟨_, _, _, _, _⟩) rfl shGet51 rfl]
 exact J15
theorem right52 (num : Int) (name : ByteArray) (ks : List Tr) : rightB (.mk 52 name num ks) = (bareB (.mk 52 name num ks) && (kidsB ks ⟨#[101, 98]⟩ || kidsB ks ⟨#[101, 98, 98]⟩)) := by
 rw [right_tab (s := ⟨_, _, _, _, _⟩) rfl shGet52 rfl]
 exact J15
theorem right53 (num : Int) (name : ByteArray) (ks : List Tr) : rightB (.mk 53 name num ks) = (bareB (.mk 53 name num ks) && kidsB ks ⟨#[101, 98]⟩) := by
 rw [right_tab (s := ⟨_, _, _, _, _⟩) rfl shGet53 rfl]
 exact J15
theorem right54 (num : Int) (name : ByteArray) (ks : List Tr) : rightB (.mk 54 name num ks) = (loopRB (.mk 54 name num ks)) := by
 rw [right_tab (s := ⟨_, _, _, _, _⟩) rfl shGet54 rfl]
 exact J15
theorem right55 (num : Int) (name : ByteArray) (ks : List Tr) : rightB (.mk 55 name num ks) = (loopRB (.mk 55 name num ks)) := by
 rw [right_tab (s := ⟨_, _, _, _, _⟩) rfl shGet55 rfl]
 exact J15
theorem right56 (num : Int) (name : ByteArray) (ks : List Tr) : rightB (.mk 56 name num ks) = (loopRB (.mk 56 name num ks)) := by
 rw [right_tab (s := ⟨_, _, _, _, _⟩) rfl shGet56 rfl]
 exact J15
theorem right57 (num : Int) (name : ByteArray) (ks : List Tr) : rightB (.mk 57 name num ks) = (bareB (.mk 57 name num ks) && kidsB ks ⟨#[98]⟩) := by
 rw [right_tab (s := ⟨_, _, _, _, _⟩) rfl shGet57 rfl]
 exact J15
theorem right58 (num : Int) (name : ByteArray) (ks : List Tr) : rightB (.mk 58 name num ks) = (everyB (fun op => op == 66) ks && (bareB (.mk 58 name num ks) && decide ((ks.length : Int) > 0))) := by
 rw [right_tab (s := ⟨_, _, _, _, _⟩) rfl shGet58 rfl]
 exact J15
theorem right59 (num : Int) (name : ByteArray) (ks : List Tr) : rightB (.mk 59 name num ks) = (bareB (.mk 59 name num ks) && kidsB ks ⟨#[98]⟩) := by
 rw [right_tab (s := ⟨_, _, _, _, _⟩) rfl shGet59 rfl]
 exact J15
theorem right60 (num : Int) (name : ByteArray) (ks : List Tr) : rightB (.mk 60 name num ks) = (bareB (.mk 60 name num ks) && kidsB ks ⟨#[101, 98]⟩) := by
 rw [right_tab (s := ⟨_, _, _, _, _⟩) rfl shGet60 rfl]
 exact J15
theorem right61 (num : Int) (name : ByteArray) (ks : List Tr) : rightB (.mk 61 name num ks) = (bareB (.mk 61 name num ks) && ((ks.length : Int) == 0 || kidsB ks ⟨#[101]⟩)) := by
 rw [right_tab (s := ⟨_, _, _, _, _⟩) rfl shGet61 rfl]
 exact J15
theorem right62 (num : Int) (name : ByteArray) (ks : List Tr) : rightB (.mk 62 name num ks) = (bareB (.mk 62 name num ks) && kidsB ks ⟨#[101]⟩) := by
 rw [right_tab (s := ⟨_, _, _, _, _⟩) rfl shGet62 rfl]
 exact J15
theorem right63 (num : Int) (name : ByteArray) (ks : List Tr) : rightB (.mk 63 name num ks) = ((bareB (.mk 63 name num ks) && (ks.length : Int) == 1) && (opK 0 ks == 13 || opK 0 ks == 15)) := by
 rw [right_tab (s := ⟨_, _, _, _, _⟩) rfl shGet63 rfl]
 exact J15
theorem right64 (num : Int) (name : ByteArray) (ks : List Tr) : rightB (.mk 64 name num ks) = (everyB (fun op => isExprB op || op == 3) ks && bareB (.mk 64 name num ks)) := by
 rw [right_tab (s := ⟨_, _, _, _, _⟩) rfl shGet64 rfl]
 exact J15
theorem right65 (num : Int) (name : ByteArray) (ks : List Tr) : rightB (.mk 65 name num ks) = (bareB (.mk 65 name num ks) && kidsB ks ⟨#[101]⟩) := by
 rw [right_tab (s := ⟨_, _, _, _, _⟩) rfl shGet65 rfl]
 exact J15
theorem right66 (num : Int) (name : ByteArray) (ks : List Tr) : rightB (.mk 66 name num ks) = (everyB isStmtB ks && bareB (.mk 66 name num ks)) := by
 rw [right_tab (s := ⟨_, _, _, _, _⟩) rfl shGet66 rfl]
 exact J15
theorem right67 (num : Int) (name : ByteArray) (ks : List Tr) : rightB (.mk 67 name num ks) = ((hasB [⟨#[43]⟩, ⟨#[42]⟩, ⟨#[109, 105, 110]⟩, ⟨#[109, 97, 120]⟩, ⟨#[38, 38]⟩, ⟨#[124, 124]⟩] name && num == 0) && kidsB ks ⟨#[110]⟩) := by
 rw [right_tab (s := ⟨_, _, _, _, _⟩) rfl shGet67 rfl]
 exact J15
theorem right3 (num : Int) (name : ByteArray) (ks : List Tr) : rightB (.mk 3 name num ks) = textR (.mk 3 name num ks) := rfl
theorem right50 (num : Int) (name : ByteArray) (ks : List Tr) : rightB (.mk 50 name num ks) = varB (.mk 50 name num ks) := rfl
end
section
def ab (d : Int) : Int := if d < 0 then -d else d
def mx (x y : Int) : Int := if y > x then y else x
structure GR (lo hi st a d c : Int) : Prop where
 hc : 1 ≤ c
 hd0 : d ≠ 0
 h1 : c = 1 → d = 1
 ha : -1000000 ≤ a ∧ a ≤ 1000000
 hl : -1000000 ≤ a + d * (c - 1) ∧ a + d * (c - 1) ≤ 1000000
 hlo : lo = if d < 0 then a + d * (c - 1) else a
 hhi : hi = if d < 0 then a else a + d * (c - 1)
 hst : st = d
def Good (lo hi st : Int) : Prop := (lo = 1 ∧ hi = 0 ∧ st = 1) ∨ ∃ a d c, GR lo hi st a d c
theorem W_id {n : Int} (h1 : -9223372036854775808 ≤ n) (h2 : n ≤ 9223372036854775807) : W n = n := wrap_i64 h1 h2
variable {d : Int}
theorem step_facts {k : Int} (hk : 0 ≤ k) (hd : d ≠ 0) (hb : -2000000 ≤ d * k ∧ d * k ≤ 2000000) : (0 < d → k ≤ d * k) ∧ (d < 0 → k ≤ -(d * k)) ∧ (1 ≤ k → -2000000 ≤ d ∧ d ≤ 2000000) ∧ (d * k = 0 ↔ k = 0) := by
 have hp : 0 < d → k ≤ d * k := fun h => by
  have := Int.mul_le_mul_of_nonneg_right (show 1 ≤ d by omega) hk
  omega
 have hn : d < 0 → k ≤ -(d * k) := fun h => by
  have := Int.mul_le_mul_of_nonneg_right (show 1 ≤ -d by omega) hk
  rw [Int.neg_mul] at this
  omega
 refine ⟨hp, hn, fun h => ?_, fun h => ?_, fun h => by rw [h, Int.mul_zero]⟩
 · rcases Int.lt_or_lt_of_ne hd with h2 | h2
   · have := Int.mul_le_mul_of_nonneg_left h (show 0 ≤ -d by omega)
     simp only [Int.neg_mul, Int.mul_one] at this
     omega
   · have := Int.mul_le_mul_of_nonneg_left h (show 0 ≤ d by omega)
     omega
 · rcases Int.mul_eq_zero.1 h with h | h
   · exact absurd h hd
   · exact h
variable {lo hi st a c : Int}
theorem GR.facts (h : GR lo hi st a d c) : (0 < d → c - 1 ≤ d * (c - 1)) ∧ (d < 0 → c - 1 ≤ -(d * (c - 1))) ∧ (-2000000 ≤ d ∧ d ≤ 2000000) ∧ (d * (c - 1) = 0 ↔ c - 1 = 0) ∧ c ≤ 2000001 := by
 have hc := h.hc
 have ha := h.ha
 have hl := h.hl
 obtain ⟨g1, g2, g3, g4⟩ := step_facts (show 0 ≤ c - 1 by omega) h.hd0 (by omega)
 refine ⟨g1, g2, ?_, g4, ?_⟩
 · by_cases hc1 : c = 1
   · have := h.h1 hc1; omega
   · exact g3 (by omega)
 · rcases Int.lt_or_lt_of_ne h.hd0 with h2 | h2
   · have := g2 h2; omega
   · have := g1 h2; omega
theorem GR.diff (h : GR lo hi st a d c) : hi - lo = ab d * (c - 1) ∧ 0 ≤ ab d * (c - 1) ∧ ab d * (c - 1) ≤ 2000000 := by
 obtain ⟨g1, g2, _⟩ := h.facts
 have hl := h.hl
 have ha := h.ha
 have hc := h.hc
 rw [h.hhi, h.hlo]
 unfold ab
 by_cases hd : d < 0
 · rw [if_pos hd, if_pos hd, if_pos hd, Int.neg_mul]
   have := g2 hd
   omega
 · rw [if_neg hd, if_neg hd, if_neg hd]
   have := g1 (by have := h.hd0; omega)
   omega
theorem ab_pos (h : d ≠ 0) : 0 < ab d := by unfold ab; split <;> omega
theorem stepS_ab (h : -2000000 ≤ d ∧ d ≤ 2000000) (h0 : d ≠ 0) : stepS d = ab d := by
 unfold stepS ab U IntKind.wrap
 simp only [IntKind.signed, IntKind.bits, Bool.false_and, Bool.false_eq_true, if_false]
 split <;> omega
theorem GR.check (h : GR lo hi st a d c) : checkS lo hi st = 0 := by
 obtain ⟨g1, g2, g3, g4, g5⟩ := h.facts
 obtain ⟨e1, e2, e3⟩ := h.diff
 have hl := h.hl
 have ha := h.ha
 have hc := h.hc
 have hd0 := h.hd0
 have hlo := h.hlo
 have hhi := h.hhi
 have hw : limS lo hi = 0 := by
  unfold limS withinB
  rw [if_neg]
  simp only [Bool.or_eq_true, Bool.not_eq_true', Bool.and_eq_false_iff, decide_eq_false_iff_not]
  by_cases hd : d < 0
  · rw [if_pos hd] at hlo hhi; omega
  · rw [if_neg hd] at hlo hhi; omega
 unfold checkS
 by_cases hc1 : c = 1
 · have hd := h.h1 hc1
   rw [if_neg]
   · exact hw
   · have hst := h.hst
     have : lo = hi := by
      have : c - 1 = 0 := by omega
      rw [this] at e1
      omega
     rw [this, hst, hd]; simp
 · have hlt : lo < hi := by
    have hp : 0 < ab d * (c - 1) := Int.mul_pos (ab_pos hd0) (by omega)
    omega
   have hmod : ((U (W (hi - lo))).tmod (stepS st) != 0) = false := by
    rw [h.hst, stepS_ab g3 hd0, W_id (by omega) (by omega), e1, show U (ab d * (c - 1)) = ab d * (c - 1) from by
     unfold U IntKind.wrap
     simp only [IntKind.signed, IntKind.bits, Bool.false_and, Bool.false_eq_true, if_false]
     omega, Int.mul_tmod_right]
    rfl
   split
   · rw [if_neg (by rw [h.hst]; simp; omega), hmod, if_neg (by decide)]
     exact hw
   · exact hw
theorem GR.series (h : GR lo hi st a d c) : seriesS lo hi st = (a, d, c) := by
 obtain ⟨g1, g2, g3, g4, g5⟩ := h.facts
 obtain ⟨e1, e2, e3⟩ := h.diff
 have hd0 := h.hd0
 have hlo := h.hlo
 have hhi := h.hhi
 have hc := h.hc
 have hst := h.hst
 have hab0 := ab_pos hd0
 have e4 : W (hi - lo) = ab d * (c - 1) := by rw [W_id (by omega) (by omega), e1]
 have e6 : W (W (c - 1) + 1) = c := by
  rw [W_id (n := c - 1) (by omega) (by omega), show c - 1 + 1 = c from by omega, W_id (by omega) (by omega)]
 unfold seriesS
 rw [if_neg (by omega), hst, e4]
 by_cases hd : d < 0
 · rw [if_pos hd] at hlo hhi
   have hab : ab d = -d := by unfold ab; rw [if_pos hd]
   have e5 : W (0 - d) = ab d := by rw [W_id (by omega) (by omega), hab]; omega
   rw [if_pos hd, e5, Int.mul_tdiv_cancel_left _ (by omega), e6, hhi]
 · rw [if_neg hd] at hlo hhi
   have hab : ab d = d := by unfold ab; rw [if_neg hd]
   rw [if_neg hd, hab, Int.mul_tdiv_cancel_left _ hd0, e6, hlo]
end
section
theorem GR.wf {lo hi st a d c : Int} (h : GR lo hi st a d c) : (-1000000 ≤ lo ∧ lo ≤ 1000000) ∧ (-1000000 ≤ hi ∧ hi ≤ 1000000) ∧ (-2000000 ≤ st ∧ st ≤ 2000000) ∧ st ≠ 0 ∧ lo ≤ hi ∧ (lo = hi → st = 1) ∧ hi % ab st = lo % ab st ∧ 0 < ab st ∧ ab st ≤ 2000000 := by
 obtain ⟨g1, g2, g3, g4, g5⟩ := h.facts
 obtain ⟨e1, e2, e3⟩ := h.diff
 have hl := h.hl
 have ha := h.ha
 have hlo := h.hlo
 have hhi := h.hhi
 have hst := h.hst
 have hd0 := h.hd0
 have hab := ab_pos hd0
 refine ⟨?_, ?_, by omega, by omega, by omega, fun he => ?_, ?_, by rw [hst]; exact hab, ?_⟩
 · split at hlo <;> omega
 · split at hhi <;> omega
 · rw [hst]
   apply h.h1
   have : ab d * (c - 1) = 0 := by omega
   rcases Int.mul_eq_zero.1 this with h1 | h1 <;> omega
 · rw [hst, show hi = lo + ab d * (c - 1) from by omega, Int.add_mul_emod_self_left]
 · rw [hst]; unfold ab; split <;> omega
end
section
theorem GR.size {lo hi st a d c : Int} (h : GR lo hi st a d c) : sizeS lo hi st = c := by
 rw [sizeS, h.check, if_neg (by decide), h.series]
theorem Good.size {lo hi st : Int} (h : Good lo hi st) : 0 ≤ sizeS lo hi st ∧ sizeS lo hi st ≤ 2000001 ∧ (sizeS lo hi st = 0 → lo = 1 ∧ hi = 0 ∧ st = 1) := by
 rcases h with ⟨rfl, rfl, rfl⟩ | ⟨a, d, c, hg⟩
 · decide
 · obtain ⟨_, _, _, _, g5⟩ := hg.facts
   have := hg.hc
   rw [hg.size]
   omega
end
section
def woL (l : List (ByteArray × Tr)) (nm : ByteArray) : List (ByteArray × Tr) := l.filter fun c => !decide (c.1 = nm)
end
section
def Agree (K : KL) (l : List (ByteArray × Tr)) : Prop := ∀ nm, findK nm K = findK nm (kl l)
theorem findK_filter (x nm : ByteArray) : ∀ K : KL, findK nm (K.filter fun c => !decide (c.1 = x)) = if x = nm then none else findK nm K
 | [] => by simp [findK]
 | c :: r => by
  rw [List.filter_cons]
  by_cases hc : c.1 = x
  · rw [if_neg (by simp [hc]), findK_filter x nm r]
    by_cases hx : x = nm
    · rw [if_pos hx, if_pos hx]
    · rw [if_neg hx, if_neg hx, findK, if_neg (by rw [hc]; exact hx)]
  · rw [if_pos (by simp [hc]), findK, findK, findK_filter x nm r]
    by_cases hx : x = nm
    · rw [if_pos hx, if_pos hx, if_neg (by rw [← hx]; exact hc)]
    · rw [if_neg hx, if_neg hx]
theorem kl_wo (l : List (ByteArray × Tr)) (x : ByteArray) : kl (woL l x) = (kl l).filter fun c => !decide (c.1 = x) := by
 unfold kl woL
 rw [List.filter_reverse, List.filter_map]
 rfl
theorem Agree.hide {K : KL} {l : List (ByteArray × Tr)} (h : Agree K l) (x : ByteArray) : Agree (hideK x K) (woL l x) := fun nm => by
 rw [kl_wo, findK_filter, ← h nm]
 rfl
theorem acc_snoc (acc : List Tr) (x : Tr) : acc.map Tr.d ++ [x.d] = (acc ++ [x]).map Tr.d := by simp
end
section
def x0 (xs : List (Tr × Bool)) (i : Nat) : Tr × Bool := xs.getD i (z0, false)
end
section
def KOkT (l : KL) : Prop := ∀ x ∈ l, ∀ t, x.2 = some t → t.Ok
theorem KOkT.hide {l : KL} (h : KOkT l) (nm : ByteArray) : KOkT (hideK nm l) := fun x hx t ht => by
 rcases List.mem_cons.1 hx with rfl | hx
 · cases ht
 · exact h x hx t ht
theorem KOkT.hideV {l : KL} (h : KOkT l) (k : Tr) : KOkT (hideV k l) := by
 unfold Go.Proofs.YtklkbfpjimeaoaaGreat.hideV
 split
 · exact h.hide _
 · exact h
theorem KOkT.bind : ∀ (ks : List Tr) {l : KL}, KOkT l → KOkT (bindK ks l)
 | [], l, h => h
 | k :: r, l, h => by
  show KOkT (bindK r (hideK k.nm l))
  exact KOkT.bind r (h.hide _)
theorem findK_okT {nm : ByteArray} : ∀ {l : KL}, KOkT l → ∀ v, findK nm l = some v → v.Ok
 | [], _, v, h => by cases h
 | x :: r, hl, v, h => by
  rw [findK] at h
  split at h
  · exact hl x (by simp) v h
  · exact findK_okT (fun y hy => hl y (by simp [hy])) v h
theorem puts_okT (op num : Int) (all : List Tr) (l : KL) (hl : KOkT l) : ∀ (ks : List Tr) (i : Nat) (inner : KL), KOkT inner → (∀ k ∈ ks, k.Ok ∧ ∀ K, KOkT K → (k.put K).Ok) → ∀ y ∈ Tr.puts op num all l i inner ks, y.Ok := by
 intro ks
 induction ks with
 | nil => intro i inner _ _ y hy; rw [Tr.puts] at hy; cases hy
 | cons k r ih =>
  intro i inner hi hk y hy
  have h1 : (stepT op num all l i inner k).1.Ok ∧ KOkT (stepT op num all l i inner k).2 := by
   unfold stepT
   split
   · exact ⟨(hk k (by simp)).1, hi.hideV k⟩
   · split
     · exact ⟨(hk k (by simp)).2 _ (KOkT.bind _ hi), hl.hideV k⟩
     · exact ⟨(hk k (by simp)).2 _ hi, hi.hideV k⟩
  rw [puts_cons] at hy
  rcases List.mem_cons.1 hy with rfl | hy
  · exact h1.1
  · exact ih _ _ h1.2 (fun x hx => hk x (by simp [hx])) y hy
theorem put_okT : ∀ n (t : Tr), t.size ≤ n → t.Ok → ∀ K, KOkT K → (t.put K).Ok := by
 intro n
 induction n with
 | zero => intro t h; exact absurd t.size_pos (by omega)
 | succ n ih =>
  intro t hsz hok K hK
  obtain ⟨op, nm, num, ks⟩ := t
  rw [Tr.put]
  split
  · split
    · rename_i v hv; exact findK_okT hK v hv
    · exact hok
  · split
    · exact hok
    · have hok' := hok
      cases hok' with | mk h1 h2 h3 h4 h5 =>
      refine .mk h1 h2 h3 (by rw [puts_len]; exact h4) (puts_okT op num ks K hK ks 0 K hK fun k hk => ⟨h5 k hk, fun K' hK' => ih k (by have := Tr.size_mem hk; rw [Tr.size] at hsz; omega) (h5 k hk) K' hK'⟩)
set_option maxHeartbeats 1000000 in
theorem c34 (t : Tr) (hok : t.Ok) (hszb : t.size ≤ 1000000) (l : List (ByteArray × Tr)) (hl : COk l) : Pf Tryz.prog 34 [t.d, .sl (l.map cD)] (.d (.bool ((evalT t l).2 == 0))) := by
 obtain ⟨op, name, num, ks⟩ := t
 rw [Tr.d_mk]
 try simp only [Tr.op_mk, Tr.nm_mk, Tr.nu_mk, Tr.kids_mk]
 refine pf_body (rvs := [.tmp 4]) [(0, .d (.agg [.int .i64 op, .str name, .int .i64 num, .sl (ks.map Tr.d)])), (1, .d (.sl (l.map cD)))] Tryz.func34 Tryz.ntmps34 Tryz.results34 (fun S0 O0 w0 m0 hm0 => ?_)
 refine Z267 ?_
 have hE := (evalT (.mk op name num ks) l).1.d_eta
 refine Z8 ?_;refine Z0 ?_
 refine gL (xs := [.tmp 8, .tmp 9]) rfl ((hE ▸ Tr.d_mk op name num ks ▸ c29 (.mk op name num ks) hok hszb l hl)) ?_
 refine Z271 ?_;refine Z269 ?_;refine Z277 ?_;refine Z20 ?_;refine Z229 ?_
 exact ⟨rfl, rfl⟩
end
end Go.Proofs.YtklkbfpjimeaoaaGreat
