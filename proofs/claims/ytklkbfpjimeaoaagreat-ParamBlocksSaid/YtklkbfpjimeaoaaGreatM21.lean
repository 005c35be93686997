import Derived.Test.YtklkbfpjimeaoaaGreatM20
import Derived.Test.YtklkbfpjimeaoaaGreatM12
import Derived.Test.YtklkbfpjimeaoaaGreatM11
/- Contracts of functions. Conditions: none. -/
set_option linter.unusedSimpArgs false
set_option linter.unusedVariables false
set_option maxRecDepth 20000
namespace Go.Proofs.YtklkbfpjimeaoaaGreat
open Go Go.Proofs.YtklkbfpjimeaoaaGreat.E
def loopsB (op num : Int) (n : Nat) : Bool := ((((op == 54 || op == 55) || op == 56) && decide (num ≥ 0)) && decide (num ≤ 2)) && decide ((n : Int) ≥ W (num + 2))
def hideK (nm : ByteArray) (l : KL) : KL := (nm, none) :: l
def bindK (ks : List Tr) (l : KL) : KL := ks.foldl (fun l k => hideK k.nm l) l
def keepsB (op num : Int) (n i : Nat) (k : Tr) : Bool := ((op == 51 && (i : Int) == 0) && k.op == 4) || (loopsB op num n && decide ((i : Int) < num))
mutual
def Tr.put : Tr → KL → Tr
 | .mk op nm num ks, l =>
  if (op == 4) = true then (match findK nm l with | some v => v | none => .mk op nm num ks)
  else if (op == 67) = true then .mk op nm num ks
  else .mk op nm num (Tr.puts op num ks l 0 l ks)
def Tr.puts (op num : Int) (all : List Tr) (l : KL) (i : Nat) (inner : KL) : List Tr → List Tr
 | [] => []
 | k :: r =>
  if keepsB op num all.length i k = true then k :: Tr.puts op num all l (i + 1) (if (k.op == 50) = true then hideK k.nm inner else inner) r
  else if (loopsB op num all.length && (i : Int) == W (num + 1)) = true then k.put (bindK (all.take num.toNat) inner) :: Tr.puts op num all l (i + 1) (if (k.op == 50) = true then hideK k.nm l else l) r
  else k.put inner :: Tr.puts op num all l (i + 1) (if (k.op == 50) = true then hideK k.nm inner else inner) r
end
variable {op num : Int}
theorem loops_num {n : Nat} (h : loopsB op num n = true) : 0 ≤ num ∧ num ≤ 2 ∧ num + 2 ≤ n := by
 unfold loopsB at h
 simp only [Bool.and_eq_true, decide_eq_true_eq] at h
 obtain ⟨⟨⟨_, h1⟩, h2⟩, h3⟩ := h
 unfold W at h3
 rw [wrap_i64 (by omega) (by omega)] at h3
 omega
def hideV (k : Tr) (l : KL) : KL := if (k.op == 50) = true then hideK k.nm l else l
def stepT (op num : Int) (all : List Tr) (l : KL) (i : Nat) (inner : KL) (k : Tr) : Tr × KL :=
 if keepsB op num all.length i k = true then (k, hideV k inner)
 else if (loopsB op num all.length && (i : Int) == W (num + 1)) = true then (k.put (bindK (all.take num.toNat) inner), hideV k l)
 else (k.put inner, hideV k inner)
def endK (op num : Int) (all : List Tr) (l : KL) : Nat → KL → List Tr → KL
 | _, inner, [] => inner
 | i, inner, k :: r => endK op num all l (i + 1) (stepT op num all l i inner k).2 r
theorem puts_cons (op num : Int) (all : List Tr) (l : KL) (i : Nat) (inner : KL) (k : Tr) (r : List Tr) : Tr.puts op num all l i inner (k :: r) = (stepT op num all l i inner k).1 :: Tr.puts op num all l (i + 1) (stepT op num all l i inner k).2 r := by
 rw [Tr.puts, stepT]
 split
 · rfl
 · split <;> rfl
variable {all ks : List Tr} {l : KL} {z : Nat} {k : Tr}
theorem puts_drop (h : ks[z]? = some k) (inner : KL) : Tr.puts op num all l z inner (ks.drop z) = (stepT op num all l z inner k).1 :: Tr.puts op num all l (z + 1) (stepT op num all l z inner k).2 (ks.drop (z + 1)) := by
 obtain ⟨hlt, rfl⟩ := List.getElem?_eq_some_iff.1 h
 rw [List.drop_eq_getElem_cons hlt, puts_cons]
theorem endK_drop (h : ks[z]? = some k) (inner : KL) : endK op num all l z inner (ks.drop z) = endK op num all l (z + 1) (stepT op num all l z inner k).2 (ks.drop (z + 1)) := by
 obtain ⟨hlt, rfl⟩ := List.getElem?_eq_some_iff.1 h
 rw [List.drop_eq_getElem_cons hlt, endK]
theorem puts_len (op num : Int) (all : List Tr) (l : KL) : ∀ (ks : List Tr) (i : Nat) (inner : KL), (Tr.puts op num all l i inner ks).length = ks.length := by
 intro ks
 induction ks with
 | nil => intro i inner; rw [Tr.puts]
 | cons k r ih => intro i inner; rw [puts_cons, List.length_cons, ih, List.length_cons]
def KLens (l : KL) : Prop := ∀ x ∈ l, ∀ t, x.2 = some t → t.Lens
theorem KLens.hide (h : KLens l) (nm : ByteArray) : KLens (hideK nm l) := fun x hx t ht => by
 rcases List.mem_cons.1 hx with rfl | hx
 · cases ht
 · exact h x hx t ht
theorem KLens.hideV (h : KLens l) (k : Tr) : KLens (hideV k l) := by
 unfold Go.Proofs.YtklkbfpjimeaoaaGreat.hideV
 split
 · exact h.hide _
 · exact h
theorem KLens.bind : ∀ (ks : List Tr) {l : KL}, KLens l → KLens (bindK ks l)
 | [], l, h => h
 | k :: r, l, h => by
  show KLens (bindK r (hideK k.nm l))
  exact KLens.bind r (h.hide _)
theorem KLens.step {inner : KL} (hl : KLens l) (hi : KLens inner) (i : Nat) (k : Tr) : KLens (stepT op num all l i inner k).2 := by
 unfold stepT
 split
 · exact hi.hideV k
 · split
   · exact hl.hideV k
   · exact hi.hideV k
theorem findK_lens {nm : ByteArray} : ∀ {l : KL}, KLens l → ∀ v, findK nm l = some v → v.Lens
 | [], _, v, h => by cases h
 | x :: r, hl, v, h => by
  rw [findK] at h
  split at h
  · exact hl x (by simp) v h
  · exact findK_lens (fun y hy => hl y (by simp [hy])) v h
theorem bindK_step (h : ks[z]? = some k) (l : KL) : bindK (ks.take (z + 1)) l = hideK k.nm (bindK (ks.take z) l) := by
 unfold bindK
 rw [List.take_add_one, h, List.foldl_append]; rfl
theorem c196 (t : Tr) : Pf Tryz.prog 196 [t.d] (.d (.bool (loopsB t.op t.nu t.kids.length))) := by
 obtain ⟨op, name, num, ks⟩ := t
 rw [Tr.d_mk]
 try simp only [Tr.op_mk, Tr.nm_mk, Tr.nu_mk, Tr.kids_mk]
 refine pf_body (rvs := [.tmp 2]) [(0, .d (.agg [.int .i64 op, .str name, .int .i64 num, .sl (ks.map Tr.d)]))] Tryz.func196 Tryz.ntmps196 Tryz.results196 (fun S0 O0 w0 m0 hm0 => ?_)
 refine Z202 ?_
 refine gF 0 [] (.agg [.int .i64 op, .str name, .int .i64 num, .sl (ks.map Tr.d)]) rfl ?_
 refine Z194 ?_;refine Z229 ?_;refine Z206 ?_;refine Z108 ?_;refine Z137 ?_;refine Z24 ?_;refine Z206 ?_
 refine sg rfl (fun hg => sP 12 rfl hg (qL u3)) ?_
 refine sg rfl (fun hg => sP 13 rfl hg q_eql) ?_
 refine Z24 ?_;refine Z206 ?_;refine Z157 ?_
 refine sg rfl (fun hg => sP 18 rfl hg q_geq) ?_
 refine Z8 ?_;refine Z206 ?_;refine Z151 ?_
 refine sg rfl (fun hg => sP 23 rfl hg q_leq) ?_
 refine Z8 ?_;refine Z237 ?_
 refine sg rfl (fun hg => sP 27 rfl hg (qL u22)) ?_
 refine sg rfl (fun hg => sP 28 rfl hg (q_len u22)) ?_
 refine Z28 ?_;refine Z185 ?_
 refine sg rfl (fun hg => sP 31 rfl hg (q_add (hw := rfl))) ?_
 refine sg rfl (fun hg => sP 32 rfl hg (sP 29 rfl hg q_geq)) ?_
 refine Z228 ?_
 exact ⟨by (simp only [Tr.op_mk, Tr.nu_mk, Tr.kids_mk, loopsB, List.length_map, W] <;> rfl), rfl⟩
theorem knD_cof (l : KL) : (PV.d (knD l)).cellsOf = [.d (knD l)] := by cases l <;> rfl
set_option maxHeartbeats 1000000 in
theorem c132 (l : KL) (nm : ByteArray) : Pf Tryz.prog 132 [knD l, .str nm] (.d (knD (hideK nm l))) := by
 refine pf_body (rvs := [.tmp 4]) [(0, .d (knD l)), (1, .d (.str nm))] Tryz.func132 Tryz.ntmps132 Tryz.results132 (fun S0 O0 w0 m0 hm0 => ?_)
 refine Z2 ?_;refine Z245 ?_
 rcases knD_or l with hkd | ⟨kd, hkd⟩ <;> rw [hkd]
 ·
  refine Z255 ?_;refine Z149 ?_;refine Z18 ?_
  refine gF 0 [] (.agg [.str nm, .nil, .nil]) rfl ?_
  rw [show D.ptr (.agg [.str nm, .nil, .nil]) = knD (hideK nm l) from by rw [hideK, knD, valD, hkd]]
  refine Z195 ?_
  exact ⟨rfl, rfl⟩
 refine Z255 ?_;refine Z149 ?_;refine Z18 ?_
 refine gF 0 [] (.agg [.str nm, .nil, .ptr kd]) rfl ?_
 rw [show D.ptr (.agg [.str nm, .nil, .ptr kd]) = knD (hideK nm l) from by rw [hideK, knD, valD, hkd]]
 refine Z195 ?_
 exact ⟨rfl, rfl⟩
set_option maxHeartbeats 4000000 in
theorem c197 (t : Tr) (l : KL) (h0 : 0 ≤ t.nu) (h1 : t.nu ≤ t.kids.length) (hlim : t.kids.length ≤ 1000000) : Pf Tryz.prog 197 [knD l, t.d] (.d (knD (bindK (t.kids.take t.nu.toNat) l))) := by
 obtain ⟨op, name, num, ks⟩ := t
 rw [Tr.d_mk]
 try simp only [Tr.op_mk, Tr.nm_mk, Tr.nu_mk, Tr.kids_mk]
 try replace h0 : 0 ≤ num := h0
 try replace h1 : num ≤ ks.length := h1
 try replace hlim : ks.length ≤ 1000000 := hlim
 refine pf_body (rvs := [.tmp 4]) [(0, .d (knD l)), (1, .d (.agg [.int .i64 op, .str name, .int .i64 num, .sl (ks.map Tr.d)]))] Tryz.func197 Tryz.ntmps197 Tryz.results197 (fun S0 O0 w0 m0 hm0 => ?_)
 refine Z202 ?_
 refine gF 0 [] (.agg [.int .i64 op, .str name, .int .i64 num, .sl (ks.map Tr.d)]) rfl ?_
 refine Z201 ?_;refine Z203 ?_;refine Z199 ?_
 refine vq rfl ((q_sliceh u22 sz27 (Tr.ds_cells ks))) ?_
 refine Z284 ?_
 refine g_loop (α := Nat) (fun z => ⟨[(13, .d (.int .i64 (z : Nat))), (12, .d (.int .i64 (((ks.map Tr.d).take num.toNat).length : Nat))), (11, .d (.sl ((ks.map Tr.d).take num.toNat))), (0, .d (knD (bindK (ks.take z) l)))], []⟩) (fun z => num.toNat - z) (fun z => z ≤ num.toNat) 0 (Nat.zero_le _) (fun z hz Q' hn0 he0 hr0 => ?_) (le_of)
 have hll : ((ks.map Tr.d).take num.toNat).length = num.toNat := by rw [List.length_take, List.length_map]; omega
 have hcc : ∀ x ∈ (ks.map Tr.d).take num.toNat, x.cells.length = 4 := fun x hx => Tr.ds_cells ks x (List.mem_of_mem_take hx)
 refine Z234 ?_
 refine gC (fun hb0 => ?_) (fun hb0 => ?_)
 ·
  have hlt : z < num.toNat := by
   have h1 : (z : Int) < ((ks.map Tr.d).take num.toNat).length := by simpa using hb0
   rw [List.length_take, List.length_map] at h1
   omega
  obtain ⟨k, hk⟩ : ∃ k, ks[z]? = some k := ⟨_, List.getElem?_eq_getElem (by omega)⟩
  have hmem := List.mem_of_getElem? hk
  obtain ⟨kop, knm, knu, kks, hke⟩ : ∃ op nm nu ks', k = .mk op nm nu ks' := by cases k; exact ⟨_, _, _, _, rfl⟩
  subst hke
  have hxd : ((ks.map Tr.d).take num.toNat)[z]? = some (.agg [.int .i64 kop, .str knm, .int .i64 knu, .sl (kks.map Tr.d)]) := by rw [List.getElem?_take_of_lt hlt, Tr.ds_get hk, Tr.d_mk]
  have hbs := bindK_step hk l
  refine Z41 ?_;refine Z276 ?_
  refine gF 0 [] (.agg [.int .i64 kop, .str knm, .int .i64 knu, .sl (kks.map Tr.d)]) rfl ?_
  refine Z100 ?_;refine Z1 ?_;refine Z212 ?_
  refine gL (xs := [.tmp 17, .tmp 19]) rfl (c132 (bindK (ks.take z) l) knm) ?_
  rw [← show bindK (ks.take (z + 1)) l = hideK knm (bindK (ks.take z) l) from hbs]
  refine Z0 ?_;refine Z87 ?_;refine Z217 ?_
  refine hn0 _ (z + 1) (by omega) (by omega) le_of
 have hge : z = num.toNat := by
  have h1 : ¬ (z : Int) < ((ks.map Tr.d).take num.toNat).length := by simpa using hb0
  omega
 refine Z34 ?_
 refine he0 _ _ ?_
 refine Z38 ?_;refine Z1 ?_;refine Z195 ?_
 exact ⟨by rw [hge], rfl⟩
set_option maxHeartbeats 8000000 in
theorem c101p (op num : Int) (name : ByteArray) (ks : List Tr) (l : KL) (hlim : ks.length ≤ 1000000) (hL : KLens l)
 (hcb : ∀ (z : Nat) (k : Tr) (inner : KL), ks[z]? = some k → KLens inner → Gm Tryz.prog 195 [.d (.int .i64 (z : Nat)), .d k.d, .ref 0 0, .ref 1 0, .ref 2 0] [[.d (.int .i64 op), .d (.str name), .d (.int .i64 num), .d (.sl (ks.map Tr.d))], [.d (knD inner)], [.d (knD l)]] (.d (stepT op num ks l z inner k).1.d) [[.d (.int .i64 op), .d (.str name), .d (.int .i64 num), .d (.sl (ks.map Tr.d))], [.d (knD (stepT op num ks l z inner k).2)], [.d (knD l)]]) : Gm Tryz.prog 101 [.d (.sl (ks.map Tr.d)), .fn (.func 195) [] [.ref 0 0, .ref 1 0, .ref 2 0]] [[.d (.int .i64 op), .d (.str name), .d (.int .i64 num), .d (.sl (ks.map Tr.d))], [.d (knD l)], [.d (knD l)]] (.d (.sl ((Tr.puts op num ks l 0 l ks).map Tr.d))) [[.d (.int .i64 op), .d (.str name), .d (.int .i64 num), .d (.sl (ks.map Tr.d))], [.d (knD (endK op num ks l 0 l ks))], [.d (knD l)]] := by
 refine gm_body (rvs := [.tmp 4]) 3 [(0, .d (.sl (ks.map Tr.d))), (1, .fn (.func 195) [] [.ref 0 0, .ref 1 0, .ref 2 0])] Tryz.func101 Tryz.ntmps101 Tryz.results101 (fun S0 O0 w0 m0 hm0 => ?_)
 refine Z211 ?_;refine Z219 ?_;refine Z284 ?_
 refine g_loop (α := Nat × List Tr × KL) (fun z => ⟨[(10, .d (.int .i64 (z.1 : Nat))), (9, .d (.int .i64 ((ks.map Tr.d).length : Nat))), (8, .d (.sl (ks.map Tr.d))), (5, .osl 4 (z.2.1.map Tr.d)), (1, .fn (.func 195) [] [.ref 0 0, .ref 1 0, .ref 2 0])], [[.d (.int .i64 op), .d (.str name), .d (.int .i64 num), .d (.sl (ks.map Tr.d))], [.d (knD z.2.2)], [.d (knD l)]]⟩) (fun z => ks.length - z.1) (fun z => z.1 ≤ ks.length ∧ z.2.1.length = z.1 ∧ KLens z.2.2 ∧ z.2.1 ++ Tr.puts op num ks l z.1 z.2.2 (ks.drop z.1) = Tr.puts op num ks l 0 l ks ∧ endK op num ks l z.1 z.2.2 (ks.drop z.1) = endK op num ks l 0 l ks) (0, [], l) ⟨Nat.zero_le _, rfl, hL, rfl, rfl⟩ (fun z hz Q' hn0 he0 hr0 => ?_) (le_of)
 obtain ⟨z, acc, inner⟩ := z
 obtain ⟨hz1, hz2, hz3, hz4, hz5⟩ := hz
 replace hz1 : z ≤ ks.length := hz1
 replace hz2 : acc.length = z := hz2
 replace hz3 : KLens inner := hz3
 replace hz4 : acc ++ Tr.puts op num ks l z inner (ks.drop z) = Tr.puts op num ks l 0 l ks := hz4
 replace hz5 : endK op num ks l z inner (ks.drop z) = endK op num ks l 0 l ks := hz5
 refine Z234 ?_
 refine gC (fun hb0 => ?_) (fun hb0 => ?_)
 ·
  have hlt : z < ks.length := by simpa using hb0
  obtain ⟨k, hk⟩ : ∃ k, ks[z]? = some k := ⟨_, List.getElem?_eq_getElem hlt⟩
  have hmem := List.mem_of_getElem? hk
  have hxd := Tr.ds_get hk
  have hxa := hxd
  obtain ⟨kop, knm, knu, kks, hka⟩ := k.d_agg
  rw [hka] at hxa
  have hfa := (stepT op num ks l z inner k).1.d_eta
  refine Z257 ?_;refine Z213 ?_;refine Z29 ?_;refine Z0 ?_;refine Z17 ?_
  refine gF 3 [[.d (.int .i64 op), .d (.str name), .d (.int .i64 num), .d (.sl (ks.map Tr.d))], [.d (knD inner)], [.d (knD l)]] (.agg [.int .i64 kop, .str knm, .int .i64 knu, .sl (kks.map Tr.d)]) rfl ?_
  refine Z100 ?_;refine Z129 ?_;refine Z198 ?_;refine Z11 ?_
  refine g_callm [0, 1, 2] rfl (hfa ▸ hka ▸ hcb z k inner hk hz3) ?_
  refine sv rfl (y_buildSlice (xs := [.tmp 19]) u22 inf27) ?_
  refine sv rfl (y_append u22 inf27 (hk := by first | exact Tr.ds_cells _ | (intro x hx; simp at hx; subst hx; simp [D.cells])) (hlen := by simp [lim]; omega) (hB := by simp [lim]; omega)) ?_
  rw [← hfa, show acc.map Tr.d ++ [(stepT op num ks l z inner k).1.d] = (acc ++ [(stepT op num ks l z inner k).1]).map Tr.d from by rw [List.map_append]; rfl]
  refine Z80 ?_;refine Z155 ?_
  refine gP [0, 1, 4, 5, 6, 7, 8, 9, 10] ?_
  refine Z258 ?_
  refine hn0 _ (z + 1, acc ++ [(stepT op num ks l z inner k).1], (stepT op num ks l z inner k).2) ⟨by show z + 1 ≤ ks.length; omega, by show (acc ++ [_]).length = z + 1; rw [List.length_append, List.length_singleton]; omega, hL.step hz3 z k, by show (acc ++ [_]) ++ _ = _; rw [List.append_assoc, ← hz4, puts_drop hk]; rfl, by show endK op num ks l (z + 1) _ _ = _; rw [← hz5, endK_drop hk]⟩ (by show ks.length - (z + 1) < ks.length - z; omega) le_of
 have hge : z = ks.length := by
  have : ¬ (z : Int) < (ks.map Tr.d).length := by simpa using hb0
  rw [List.length_map] at this
  omega
 refine Z34 ?_
 refine he0 _ _ ?_
 refine Z38 ?_
 subst hge
 rw [List.drop_length, Tr.puts, List.append_nil] at hz4
 rw [List.drop_length, endK] at hz5
 refine Z1 ?_;refine Z193 ?_
 refine finkm [[.d (.int .i64 op), .d (.str name), .d (.int .i64 num), .d (.sl (ks.map Tr.d))], [.d (knD inner)], [.d (knD l)]] (by simp) ?_
 exact ⟨by rw [hz4], by rw [hz5]⟩
theorem l196 (op num : Int) (name : ByteArray) (ks : List Tr) : Pf Tryz.prog 196 [.agg [.int .i64 op, .str name, .int .i64 num, .sl (ks.map Tr.d)]] (.d (.bool (loopsB op num ks.length))) := Tr.d_mk op name num ks ▸ c196 (.mk op name num ks)
theorem hideV_t (h : (k.op == 50) = true) : hideV k l = hideK k.nm l := if_pos h
theorem hideV_f (h : (k.op == 50) = false) : hideV k l = l := if_neg (by rw [h]; decide)
set_option maxHeartbeats 8000000 in
theorem c195x (op num : Int) (name : ByteArray) (ks : List Tr) (l inner : KL) (z : Nat) (kop knu : Int) (knm : ByteArray) (kks : List Tr) (hlim : ks.length ≤ 1000000) (hz : z < ks.length) (hkl : (Tr.mk kop knm knu kks).Lens) (hL : KLens l) (hi : KLens inner)
 (ih : ∀ K : KL, KLens K → Pf Tryz.prog 110 [(Tr.mk kop knm knu kks).d, knD K] (.d ((Tr.mk kop knm knu kks).put K).d)) : Gm Tryz.prog 195 [.d (.int .i64 (z : Nat)), .d (.agg [.int .i64 kop, .str knm, .int .i64 knu, .sl (kks.map Tr.d)]), .ref 0 0, .ref 1 0, .ref 2 0] [[.d (.int .i64 op), .d (.str name), .d (.int .i64 num), .d (.sl (ks.map Tr.d))], [.d (knD inner)], [.d (knD l)]] (.d (stepT op num ks l z inner (Tr.mk kop knm knu kks)).1.d) [[.d (.int .i64 op), .d (.str name), .d (.int .i64 num), .d (.sl (ks.map Tr.d))], [.d (knD (stepT op num ks l z inner (Tr.mk kop knm knu kks)).2)], [.d (knD l)]] := by
 refine gm_body (rvs := [.cell 7 27]) 3 [(0, .d (.int .i64 (z : Nat))), (1, .d (.agg [.int .i64 kop, .str knm, .int .i64 knu, .sl (kks.map Tr.d)])), (2, .ref 0 0), (3, .ref 1 0), (4, .ref 2 0)] Tryz.func195 Tryz.ntmps195 Tryz.results195 (fun S0 O0 w0 m0 hm0 => ?_)
 refine Z202 ?_
 refine gF 3 [[.d (.int .i64 op), .d (.str name), .d (.int .i64 num), .d (.sl (ks.map Tr.d))], [.d (knD inner)], [.d (knD l)]] (.agg [.int .i64 kop, .str knm, .int .i64 knu, .sl (kks.map Tr.d)]) rfl ?_
 refine Z29 ?_;refine Z7 ?_;refine Z11 ?_;refine Z218 ?_;refine Z3 ?_
 refine G_seq_cut (α := Tr × KL) (fun y => ⟨[(6, .d (.ptr (.agg [.int .i64 kop, .str knm, .int .i64 knu, .sl (kks.map Tr.d)]))), (3, .ref 1 0), (7, .ref 3 0), (8, .ref 4 0)], [[.d (.int .i64 op), .d (.str name), .d (.int .i64 num), .d (.sl (ks.map Tr.d))], [.d (knD y.2)], [.d (knD l)], [.d (.int .i64 0), .d (.str ⟨#[]⟩), .d (.int .i64 0), .nils], [.d (.int .i64 y.1.op), .d (.str y.1.nm), .d (.int .i64 y.1.nu), .d (.sl (y.1.kids.map Tr.d))]]⟩) (fun y => (y.1, hideV (Tr.mk kop knm knu kks) y.2) = stepT op num ks l z inner (Tr.mk kop knm knu kks)) (fun Q' hn he hr => ?_) (fun y hy => ?_)
 ·
  refine G_block (gS (gS (gR ?_)))
  refine Z186 ?_;refine Z47 ?_;refine Z9 ?_;refine Z205 ?_
  refine sg rfl (fun hg => sP 18 rfl hg q_eql) ?_
  refine Z8 ?_;refine Z206 ?_;refine Z151 ?_
  refine sg rfl (fun hg => sP 23 rfl hg q_eql) ?_
  refine Z290 ?_
  refine gC (fun hb0 => ?_) (fun hb0 => ?_)
  ·
   have hkp : keepsB op num ks.length z (Tr.mk kop knm knu kks) = true := by
    unfold keepsB
    rw [show (((op == 51 && (z : Int) == 0) && ((Tr.mk kop knm knu kks)).op == 4)) = ((op == 51 && (z : Int) == 0) && kop == 4) from rfl]
    rw [show ((op == 51 && (z : Int) == 0) && kop == 4) = true from hb0]; rfl
   refine Z68 ?_
   refine gC (fun hb1 => ?_) (fun hb1 => ?_)
   ·
    refine Z262 ?_
    refine gL (xs := [.tmp 34]) rfl ((Tr.d_mk kop knm knu kks ▸ c100 (Tr.mk kop knm knu kks) hkl)) ?_
    refine Z17 ?_;refine Z164 ?_
    refine hn _ ((Tr.mk kop knm knu kks), inner) (by rw [stepT, if_pos hkp]) le_of
   exact absurd (hb0.symm.trans hb1) (by decide)
  refine Z4 ?_;refine Z56 ?_
  refine gL (xs := [.tmp 26]) rfl (l196 op num name ks) ?_
  refine Z205 ?_;refine Z152 ?_
  refine sg rfl (fun hg => sP 30 rfl hg (qO u3)) ?_
  refine sg rfl (fun hg => sP 31 rfl hg (sP 29 rfl hg q_lss)) ?_
  refine Z290 ?_
  refine gC (fun hb2 => ?_) (fun hb2 => ?_)
  ·
   have hkp : keepsB op num ks.length z (Tr.mk kop knm knu kks) = true := by
    unfold keepsB
    rw [show (((op == 51 && (z : Int) == 0) && ((Tr.mk kop knm knu kks)).op == 4)) = ((op == 51 && (z : Int) == 0) && kop == 4) from rfl]
    rw [show (loopsB op num ks.length && decide ((z : Int) < num)) = true from hb2, Bool.or_true]
   refine Z262 ?_
   refine gL (xs := [.tmp 34]) rfl ((Tr.d_mk kop knm knu kks ▸ c100 (Tr.mk kop knm knu kks) hkl)) ?_
   refine Z17 ?_;refine Z164 ?_
   refine hn _ ((Tr.mk kop knm knu kks), inner) (by rw [stepT, if_pos hkp]) le_of
  have hkn : keepsB op num ks.length z (Tr.mk kop knm knu kks) = false := by
   unfold keepsB
   rw [show (((op == 51 && (z : Int) == 0) && ((Tr.mk kop knm knu kks)).op == 4)) = ((op == 51 && (z : Int) == 0) && kop == 4) from rfl, show ((op == 51 && (z : Int) == 0) && kop == 4) = false from hb0, show (loopsB op num ks.length && decide ((z : Int) < num)) = false from hb2]; rfl
  refine Z2 ?_;refine Z56 ?_
  refine gL (xs := [.tmp 37]) rfl (l196 op num name ks) ?_
  refine Z205 ?_;refine Z152 ?_
  refine sg rfl (fun hg => sP 41 rfl hg (qO u3)) ?_
  refine sg rfl (fun hg => sP 42 rfl hg (q_add (hw := rfl))) ?_
  refine sg rfl (fun hg => sP 43 rfl hg (sP 40 rfl hg q_eql)) ?_
  refine Z290 ?_
  refine gC (fun hb3 => ?_) (fun hb3 => ?_)
  ·
   have hbd : (loopsB op num ks.length && (z : Int) == W (num + 1)) = true := hb3
   have hlp := (Bool.and_eq_true_iff.1 hbd).1
   refine Z15 ?_
   refine g_cg [46, 47, 48, 49, 50] (fun bq => [[.d (.int .i64 op), .d (.str name), .d (.int .i64 num), .d (.sl (ks.map Tr.d))], [.d (knD inner)], [.d (knD l)], [.d (.int .i64 0), .d (.str ⟨#[]⟩), .d (.int .i64 0), .nils], cond (bq 5) [.d (.int .i64 ((Tr.mk kop knm knu kks).put (bindK (ks.take num.toNat) inner)).op), .d (.str ((Tr.mk kop knm knu kks).put (bindK (ks.take num.toNat) inner)).nm), .d (.int .i64 ((Tr.mk kop knm knu kks).put (bindK (ks.take num.toNat) inner)).nu), .d (.sl (((Tr.mk kop knm knu kks).put (bindK (ks.take num.toNat) inner)).kids.map Tr.d))] [.d (.int .i64 kop), .d (.str knm), .d (.int .i64 knu), .d (.sl (kks.map Tr.d))]]) rfl ?_
   refine Z12 ?_
   refine cS 1 (fun bq rest hc1 hc2 hc3 => vq rfl (qG (by exact sz27) u27 rfl) (gN ⟨rfl, rfl⟩)) ?_
   refine Z12 ?_
   refine cS 2 (fun bq rest hc1 hc2 hc3 => by
    have hs := hc3.no 5 1 hc1
    have e2 : upd bq 1 5 = false := hs
    simp only [hs, cond_false]
    refine Z130 ?_
    exact (gN ⟨rfl, by rw [e2]; rfl⟩)) ?_
   refine Z12 ?_
   refine cS 3 (fun bq rest hc1 hc2 hc3 => by
    have hs := hc3.no 5 2 hc1
    have e2 : upd bq 2 5 = false := hs
    simp only [hs, cond_false]
    refine Z56 ?_
    exact (gN ⟨rfl, by rw [e2]; rfl⟩)) ?_
   refine cP [1, 2] ?_
   refine cS 4 (fun bq rest hc1 hc2 hc3 => gL (xs := [.tmp 47, .tmp 48]) rfl ((Tr.d_mk op name num ks ▸ c197 (.mk op name num ks) inner (loops_num hlp).1 (by have := (loops_num hlp).2; show num ≤ ks.length; omega) hlim)) (gN ⟨rfl, rfl⟩)) ?_
   refine cP [0, 3, 3] ?_
   refine cS 5 (fun bq rest hc1 hc2 hc3 => gL (xs := [.tmp 46, .tmp 49]) rfl ((((Tr.mk kop knm knu kks).put (bindK (ks.take num.toNat) inner)).d_eta ▸ Tr.d_mk kop knm knu kks ▸ ih (bindK (ks.take num.toNat) inner) (KLens.bind _ hi))) (gN ⟨rfl, rfl⟩)) ?_
   refine cP [4, 4, 0, 1, 2, 3, 4] ?_
   refine cg_act 6 (fun bq rest hc1 hc2 hc3 => by
    have e2 : upd bq 5 5 = true := rfl
    simp only [hc1, cond_false]
    refine Z17 ?_
    exact (gN ⟨rfl, by rw [e2]; rfl⟩)) ?_
   refine cg_done (mem'' := [[.d (.int .i64 op), .d (.str name), .d (.int .i64 num), .d (.sl (ks.map Tr.d))], [.d (knD inner)], [.d (knD l)], [.d (.int .i64 0), .d (.str ⟨#[]⟩), .d (.int .i64 0), .nils], [.d (.int .i64 ((Tr.mk kop knm knu kks).put (bindK (ks.take num.toNat) inner)).op), .d (.str ((Tr.mk kop knm knu kks).put (bindK (ks.take num.toNat) inner)).nm), .d (.int .i64 ((Tr.mk kop knm knu kks).put (bindK (ks.take num.toNat) inner)).nu), .d (.sl (((Tr.mk kop knm knu kks).put (bindK (ks.take num.toNat) inner)).kids.map Tr.d))]]) ?_
   refine tN (gR ?_)
   refine Z130 ?_
   refine sa rfl (dS (hps := knD_cof l) sz141) ?_
   refine Z164 ?_
   refine hn _ ((Tr.mk kop knm knu kks).put (bindK (ks.take num.toNat) inner), l) (by rw [stepT, if_neg (by rw [hkn]; decide), if_pos hbd]) le_of
  have hbd : (loopsB op num ks.length && (z : Int) == W (num + 1)) = false := hb3
  refine Z262 ?_;refine Z130 ?_
  refine gL (xs := [.tmp 10, .tmp 11]) rfl ((((Tr.mk kop knm knu kks).put inner).d_eta ▸ Tr.d_mk kop knm knu kks ▸ ih inner hi)) ?_
  refine Z17 ?_;refine Z164 ?_
  refine hn _ ((Tr.mk kop knm knu kks).put inner, inner) (by rw [stepT, if_neg (by rw [hkn]; decide), if_neg (by rw [hbd]; decide)]) le_of
 obtain ⟨y, yk⟩ := y
 replace hy : (y, hideV (Tr.mk kop knm knu kks) yk) = stepT op num ks l z inner (Tr.mk kop knm knu kks) := hy
 refine Z35 ?_;refine Z268 ?_
 refine gC (fun hb4 => ?_) (fun hb4 => ?_)
 ·
  have e1 : (stepT op num ks l z inner (Tr.mk kop knm knu kks)).1 = y := by rw [← hy]
  have e2 : (stepT op num ks l z inner (Tr.mk kop knm knu kks)).2 = hideK knm yk := by rw [← hy]; exact hideV_t hb4
  refine Z4 ?_;refine Z130 ?_;refine Z212 ?_
  refine gL (xs := [.tmp 55, .tmp 57]) rfl (c132 yk knm) ?_
  refine sa rfl (dS sz141) ?_
  refine Z7 ?_;refine Z273 ?_;refine Z6 ?_
  refine fincm [[.d (.int .i64 op), .d (.str name), .d (.int .i64 num), .d (.sl (ks.map Tr.d))], [.d (knD (hideK knm yk))], [.d (knD l)]] sz27 u27 (by simp) ?_
  exact ⟨by rw [e1, y.d_eta], by rw [e2]⟩
 have e1 : (stepT op num ks l z inner (Tr.mk kop knm knu kks)).1 = y := by rw [← hy]
 have e2 : (stepT op num ks l z inner (Tr.mk kop knm knu kks)).2 = yk := by rw [← hy]; exact hideV_f hb4
 refine Z45 ?_;refine Z273 ?_;refine Z6 ?_
 refine fincm [[.d (.int .i64 op), .d (.str name), .d (.int .i64 num), .d (.sl (ks.map Tr.d))], [.d (knD yk)], [.d (knD l)]] sz27 u27 (by simp) ?_
 exact ⟨by rw [e1, y.d_eta], by rw [e2]⟩
theorem c195 (op num : Int) (name : ByteArray) (ks : List Tr) (l : KL) (hlim : ks.length ≤ 1000000) (hL : KLens l) (hks : ∀ k ∈ ks, k.Lens) (ih : ∀ k ∈ ks, ∀ K : KL, KLens K → Pf Tryz.prog 110 [k.d, knD K] (.d (k.put K).d)) :
 ∀ (z : Nat) (k : Tr) (inner : KL), ks[z]? = some k → KLens inner → Gm Tryz.prog 195 [.d (.int .i64 (z : Nat)), .d k.d, .ref 0 0, .ref 1 0, .ref 2 0] [[.d (.int .i64 op), .d (.str name), .d (.int .i64 num), .d (.sl (ks.map Tr.d))], [.d (knD inner)], [.d (knD l)]] (.d (stepT op num ks l z inner k).1.d) [[.d (.int .i64 op), .d (.str name), .d (.int .i64 num), .d (.sl (ks.map Tr.d))], [.d (knD (stepT op num ks l z inner k).2)], [.d (knD l)]] := by
 intro z k inner hk hi
 have hmem := List.mem_of_getElem? hk
 obtain ⟨kop, knm, knu, kks⟩ := k
 rw [Tr.d_mk]
 exact c195x op num name ks l inner z kop knu knm kks hlim (List.getElem?_eq_some_iff.1 hk).1 (hks _ hmem) hL hi (ih _ hmem)
theorem Tr.Lens.mk' {nm : ByteArray} (h : (Tr.mk op nm num ks).Lens) : ks.length ≤ 1000000 ∧ ∀ k ∈ ks, k.Lens := by cases h; exact ⟨by assumption, by assumption⟩
set_option maxHeartbeats 8000000 in
theorem c110n : ∀ (n : Nat) (t : Tr), t.size ≤ n → t.Lens → ∀ l : KL, KLens l → Pf Tryz.prog 110 [t.d, knD l] (.d (t.put l).d) := by
 intro n
 induction n with
 | zero => intro t h; exact absurd t.size_pos (by omega)
 | succ n ih =>
  intro t hsz hlen l hL
  obtain ⟨op, name, num, ks⟩ := t
  obtain ⟨hlim, hks⟩ := hlen.mk'
  have hI : ∀ k ∈ ks, ∀ K : KL, KLens K → Pf Tryz.prog 110 [k.d, knD K] (.d (k.put K).d) := fun k hk => ih k (by have := Tr.size_mem hk; rw [Tr.size] at hsz; omega) (hks k hk)
  rw [Tr.d_mk]
  refine pf_body (rvs := [.cell 4 27]) [(0, .d (.agg [.int .i64 op, .str name, .int .i64 num, .sl (ks.map Tr.d)])), (1, .d (knD l))] Tryz.func110 Tryz.ntmps110 Tryz.results110 (fun S0 O0 w0 m0 hm0 => ?_)
  refine Z202 ?_
  refine sv rfl (y_box (hcs := by rw [knD_cof])) ?_
  refine Z29 ?_;refine Z16 ?_;refine Z186 ?_;refine Z47 ?_;refine Z103 ?_;refine Z204 ?_
  refine gC (fun hb0 => ?_) (fun hb0 => ?_)
  ·
   refine Z35 ?_;refine Z130 ?_
   refine sv rfl (y_fieldAt 1 u27 rfl sz9) ?_
   refine sv rfl (y_load_leaf u9) ?_
   refine gL (xs := [.tmp 11, .tmp 13]) rfl (c181 l name) ?_
   refine Z245 ?_
   rcases hfv : findK name l with _ | v
   ·
    refine Z115 ?_;refine Z4 ?_
    rw [valD]
    refine Z1 ?_;refine Z182 ?_;refine Z3 ?_
    refine gC (fun hb1 => ?_) (fun hb1 => ?_)
    ·
     exact absurd hb1 (by decide)
    refine Z45 ?_;refine Z56 ?_
    refine gL (xs := [.tmp 21]) rfl ((Tr.d_mk op name num ks ▸ c100 (.mk op name num ks) hlen)) ?_
    refine Z17 ?_;refine Z13 ?_;refine Z83 ?_
    exact ⟨by rw [Tr.put, if_pos hb0, hfv, Tr.d_mk], rfl⟩
   refine Z115 ?_;refine Z4 ?_
   rw [valD, v.d_eta]
   refine Z1 ?_;refine Z182 ?_;refine Z3 ?_
   refine gC (fun hb2 => ?_) (fun hb2 => ?_)
   ·
    refine Z220 ?_;refine Z117 ?_;refine Z11 ?_
    refine gL (xs := [.tmp 19]) rfl ((v.d_eta ▸ c100 v (findK_lens hL v hfv))) ?_
    refine Z17 ?_;refine Z78 ?_;refine Z83 ?_
    exact ⟨by rw [Tr.put, if_pos hb0, hfv, v.d_eta], rfl⟩
   exact absurd hb2 (by decide)
  refine Z222 ?_
  refine gC (fun hb3 => ?_) (fun hb3 => ?_)
  ·
   refine Z2 ?_;refine Z56 ?_
   refine gL (xs := [.tmp 25]) rfl ((Tr.d_mk op name num ks ▸ c100 (.mk op name num ks) hlen)) ?_
   refine Z17 ?_;refine Z13 ?_;refine Z83 ?_
   exact ⟨by rw [Tr.put, if_neg (by rw [hb0]; decide), if_pos hb3, Tr.d_mk], rfl⟩
  refine Z71 ?_;refine Z130 ?_
  refine sv rfl (y_alloc zr141) ?_
  refine sa rfl (dS (hps := knD_cof l) sz141) ?_
  refine Z30 ?_;refine Z115 ?_;refine Z4 ?_;refine Z92 ?_;refine Z184 ?_
  refine vq rfl (q_makeFunc (xs := []) (ys := [.tmp 2, .tmp 6, .tmp 3])) ?_
  refine g_callm [0, 3, 1] rfl (c101p op num name ks l hlim hL (c195 op num name ks l hlim hL hks hI)) ?_
  refine Z92 ?_;refine Z114 ?_;refine Z7 ?_;refine Z273 ?_;refine Z6 ?_;refine Z83 ?_
  exact ⟨by rw [Tr.put, if_neg (by rw [hb0]; decide), if_neg (by rw [hb3]; decide), Tr.d_mk], rfl⟩
theorem c110 (t : Tr) (h : t.Lens) (l : KL) (hL : KLens l) : Pf Tryz.prog 110 [t.d, knD l] (.d (t.put l).d) := c110n _ t (Nat.le_refl _) h l hL
end Go.Proofs.YtklkbfpjimeaoaaGreat
namespace Go.Proofs.YtklkbfpjimeaoaaGreat
open Go Go.Proofs.YtklkbfpjimeaoaaGreat.E
theorem finkn {P : Program} {t n : Nat} {p q : PV} {s : GS} {R : PV → List (List PV) → Prop} {e : Exit} (mem' : List (List PV)) (he : e = .normal ∨ e = .ret) (hR : R q mem') (hs : s.get t = some p) (hq : p.copy = q) (hb : PV.refsB mem'.length q = true) (hl : n ≤ mem'.length)
 (hm : MSub mem'.length s.mem mem') : Fin P [.tmp t] n R e s := ⟨he, .inl ⟨[p.copy], mem', .cons (.tmp hs) .nil, hl, hm, by simp only [tupOf]; rw [hq]; exact hb, by simp only [tupOf]; rw [hq]; exact hR⟩⟩
theorem fincn {P : Program} {t b n k : Nat} {ty : TypeId} {cs : List PV} {td : TypeDesc} {q : PV} {s : GS} {R : PV → List (List PV) → Prop} {e : Exit} (mem' : List (List PV)) (hz : (P.info? ty).map (·.size) = some k) (hu : P.underlying ty = some td) (he : e = .normal ∨ e = .ret) (hR : R q mem')
 (hs : s.get t = some (.ref b 0)) (hm : s.mem[b]? = some cs) (hq : mkAgg ((cs.drop 0).take k) = q) (hl : leafT td = false) (hn : 0 + k ≤ cs.length) (hne : plainB cs = true) (hb : PV.refsB mem'.length q = true) (hk : n ≤ mem'.length) (hms : MSub mem'.length s.mem mem') : Fin P [.cell t ty] n R e s :=
 ⟨he, .inl ⟨[mkAgg ((cs.drop 0).take k)], mem', (.cons (.agg hs hm hz hu hl hn hne) .nil), hk, hms, by simp only [tupOf]; rw [hq]; exact hb, by simp only [tupOf]; rw [hq]; exact hR⟩⟩
theorem refsBs_flat (n : Nat) : ∀ xs : List D, PV.refsBs n (flat xs) = true
 | [] => rfl
 | x :: xs => by
  have hap : ∀ (ds : List D) (ps : List PV), PV.refsBs n ps = true → PV.refsBs n (ds.map PV.d ++ ps) = true := by
   intro ds ps hps
   induction ds with
   | nil => simpa using hps
   | cons d ds ih => simp [PV.refsBs, PV.refsB, ih]
  rw [flat_cons]; exact hap _ _ (refsBs_flat n xs)
set_option maxHeartbeats 8000000 in
theorem c101r (op num : Int) (name : ByteArray) (ks : List Tr) (l : KL) (hlim : ks.length ≤ 1000000) (hL : KLens l)
 (hcb : ∀ (z : Nat) (k : Tr) (inner : KL), ks[z]? = some k → KLens inner → Gm Tryz.prog 195 [.d (.int .i64 (z : Nat)), .d k.d, .ref 0 0, .ref 1 0, .ref 2 0] [[.d (.int .i64 op), .d (.str name), .d (.int .i64 num), .d (.sl (ks.map Tr.d))], [.d (knD inner)], [.d (knD l)]] (.d (stepT op num ks l z inner k).1.d) [[.d (.int .i64 op), .d (.str name), .d (.int .i64 num), .d (.sl (ks.map Tr.d))], [.d (knD (stepT op num ks l z inner k).2)], [.d (knD l)]]) : Gm Tryz.prog 101 [.d (.sl (ks.map Tr.d)), .fn (.func 195) [] [.ref 0 0, .ref 1 0, .ref 2 0]] [[.d (.int .i64 op), .d (.str name), .d (.int .i64 num), .d (.sl (ks.map Tr.d))], [.d (knD l)], [.d (knD l)]] (.rsl 3 0 ks.length 4) [[.d (.int .i64 op), .d (.str name), .d (.int .i64 num), .d (.sl (ks.map Tr.d))], [.d (knD (endK op num ks l 0 l ks))], [.d (knD l)], flat ((Tr.puts op num ks l 0 l ks).map Tr.d)] := by
 refine gm_body (rvs := [.tmp 4]) 3 [(0, .d (.sl (ks.map Tr.d))), (1, .fn (.func 195) [] [.ref 0 0, .ref 1 0, .ref 2 0])] Tryz.func101 Tryz.ntmps101 Tryz.results101 (fun S0 O0 w0 m0 hm0 => ?_)
 refine Z211 ?_;refine Z201 ?_
 refine g_nilrow 5 4 ?_
 refine Z1 ?_;refine Z284 ?_
 refine g_loop (α := Nat × List Tr × KL) (fun z => ⟨[(10, .d (.int .i64 (z.1 : Nat))), (9, .d (.int .i64 ((ks.map Tr.d).length : Nat))), (8, .d (.sl (ks.map Tr.d))), (5, .rsl 3 0 z.1 4), (1, .fn (.func 195) [] [.ref 0 0, .ref 1 0, .ref 2 0])], [[.d (.int .i64 op), .d (.str name), .d (.int .i64 num), .d (.sl (ks.map Tr.d))], [.d (knD z.2.2)], [.d (knD l)], flat (z.2.1.map Tr.d)]⟩) (fun z => ks.length - z.1) (fun z => z.1 ≤ ks.length ∧ z.2.1.length = z.1 ∧ KLens z.2.2 ∧ z.2.1 ++ Tr.puts op num ks l z.1 z.2.2 (ks.drop z.1) = Tr.puts op num ks l 0 l ks ∧ endK op num ks l z.1 z.2.2 (ks.drop z.1) = endK op num ks l 0 l ks) (0, [], l) ⟨Nat.zero_le _, rfl, hL, rfl, rfl⟩ (fun z hz Q' hn0 he0 hr0 => ?_) (le_of)
 obtain ⟨z, acc, inner⟩ := z
 obtain ⟨hz1, hz2, hz3, hz4, hz5⟩ := hz
 replace hz1 : z ≤ ks.length := hz1
 replace hz2 : acc.length = z := hz2
 replace hz3 : KLens inner := hz3
 replace hz4 : acc ++ Tr.puts op num ks l z inner (ks.drop z) = Tr.puts op num ks l 0 l ks := hz4
 replace hz5 : endK op num ks l z inner (ks.drop z) = endK op num ks l 0 l ks := hz5
 have hzl : (acc.map Tr.d).length = z := by rw [List.length_map]; exact hz2
 refine Z234 ?_
 refine gC (fun hb0 => ?_) (fun hb0 => ?_)
 ·
  have hlt : z < ks.length := by simpa using hb0
  obtain ⟨k, hk⟩ : ∃ k, ks[z]? = some k := ⟨_, List.getElem?_eq_getElem hlt⟩
  have hmem := List.mem_of_getElem? hk
  have hxd := Tr.ds_get hk
  have hxa := hxd
  obtain ⟨kop, knm, knu, kks, hka⟩ := k.d_agg
  rw [hka] at hxa
  have hfa := (stepT op num ks l z inner k).1.d_eta
  refine Z257 ?_;refine Z213 ?_;refine Z29 ?_;refine Z0 ?_;refine Z17 ?_
  refine gF (hrf := by simp only [List.all_cons, List.all_nil, PV.refsBs, PV.refsB, refsBs_flat, Bool.and_true, Bool.and_self]) 4 [[.d (.int .i64 op), .d (.str name), .d (.int .i64 num), .d (.sl (ks.map Tr.d))], [.d (knD inner)], [.d (knD l)], flat (acc.map Tr.d)] (.agg [.int .i64 kop, .str knm, .int .i64 knu, .sl (kks.map Tr.d)]) rfl ?_
  refine Z100 ?_;refine Z198 ?_;refine Z1 ?_;refine Z11 ?_
  refine g_callm [0, 1, 2] rfl (hfa ▸ hka ▸ hcb z k inner hk hz3) ?_
  refine sv rfl (y_buildSlice (xs := [.tmp 19]) u22 inf27) ?_
  refine sv (hs := rfl) rfl (y_appendR (xs := acc.map Tr.d) (n' := z + 1) u22 inf27 (Tr.ds_cells acc) hzl (hbm := by show m0.length ≤ 3; omega) (hlen := by rw [hzl]; simp [lim]; omega) (hB := by rw [hzl]; simp [lim]; omega)) ?_
  rw [← hfa, show acc.map Tr.d ++ [(stepT op num ks l z inner k).1.d] = (acc ++ [(stepT op num ks l z inner k).1]).map Tr.d from by rw [List.map_append]; rfl]
  refine Z0 ?_;refine Z155 ?_
  refine gP [0, 1, 4, 5, 6, 7, 8, 9, 10] ?_
  refine Z258 ?_
  refine hn0 _ (z + 1, acc ++ [(stepT op num ks l z inner k).1], (stepT op num ks l z inner k).2) ⟨by show z + 1 ≤ ks.length; omega, by show (acc ++ [_]).length = z + 1; rw [List.length_append, List.length_singleton]; omega, hL.step hz3 z k, by show (acc ++ [_]) ++ _ = _; rw [List.append_assoc, ← hz4, puts_drop hk]; rfl, by show endK op num ks l (z + 1) _ _ = _; rw [← hz5, endK_drop hk]⟩ (by show ks.length - (z + 1) < ks.length - z; omega) le_of
 have hge : z = ks.length := by
  have : ¬ (z : Int) < (ks.map Tr.d).length := by simpa using hb0
  rw [List.length_map] at this
  omega
 refine Z34 ?_
 refine he0 _ _ ?_
 refine Z38 ?_
 subst hge
 rw [List.drop_length, Tr.puts, List.append_nil] at hz4
 rw [List.drop_length, endK] at hz5
 refine Z1 ?_;refine Z193 ?_
 refine finkn [[.d (.int .i64 op), .d (.str name), .d (.int .i64 num), .d (.sl (ks.map Tr.d))], [.d (knD inner)], [.d (knD l)], flat (acc.map Tr.d)] (by simp) ?_ (by simp only [GS.ev, GS.get, List.lookup_cons, Nat.reduceBEq, Option.getD_some, Option.getD_none, List.lookup_nil, ofConst] <;> rfl) rfl rfl (by simp) (by repeat (first | exact MSub.nil | (refine MSub.cons (by first | exact CSub_flat _ _ | (repeat (first | exact CSub.nil | refine CSub.cons (by first | exact .inl rfl | exact .inr (.inl rfl)) rfl ?_))) ?_)))
 exact ⟨rfl, by rw [hz4, hz5]⟩
set_option maxHeartbeats 8000000 in
theorem c110r (op num : Int) (name : ByteArray) (ks : List Tr) (l : KL) (hlim : ks.length ≤ 1000000) (hks : ∀ k ∈ ks, k.Lens) (hL : KLens l) (h4 : ¬ op = 4) (h67 : ¬ op = 67) : Gm Tryz.prog 110 [.d (.agg [.int .i64 op, .str name, .int .i64 num, .sl (ks.map Tr.d)]), .d (knD l)] [] (.agg [.d (.int .i64 op), .d (.str name), .d (.int .i64 num), .rsl 4 0 ks.length 4]) [[.undef, .undef, .undef, .undef], [.undef], [.undef, .undef, .undef, .undef], [.undef], flat ((Tr.puts op num ks l 0 l ks).map Tr.d)] := by
 have hI : ∀ k ∈ ks, ∀ K : KL, KLens K → Pf Tryz.prog 110 [k.d, knD K] (.d (k.put K).d) := fun k hk K hK => c110 k (hks k hk) K hK
 refine gm_body (rvs := [.cell 4 27]) 0 [(0, .d (.agg [.int .i64 op, .str name, .int .i64 num, .sl (ks.map Tr.d)])), (1, .d (knD l))] Tryz.func110 Tryz.ntmps110 Tryz.results110 (fun S0 O0 w0 m0 hm0 => ?_)
 refine Z202 ?_
 refine sv rfl (y_box (hcs := by rw [knD_cof])) ?_
 refine Z29 ?_;refine Z16 ?_;refine Z186 ?_;refine Z47 ?_;refine Z103 ?_;refine Z204 ?_
 refine gC (fun hb0 => ?_) (fun hb0 => ?_)
 ·
  exact absurd hb0 (by simpa using h4)
 refine Z222 ?_
 refine gC (fun hb1 => ?_) (fun hb1 => ?_)
 ·
  exact absurd hb1 (by simpa using h67)
 refine Z71 ?_;refine Z130 ?_
 refine sv rfl (y_alloc zr141) ?_
 refine sa rfl (dS (hps := knD_cof l) sz141) ?_
 refine Z30 ?_;refine Z115 ?_;refine Z4 ?_;refine Z92 ?_;refine Z184 ?_
 refine vq rfl (q_makeFunc (xs := []) (ys := [.tmp 2, .tmp 6, .tmp 3])) ?_
 refine g_callmn [0, 3, 1] (.rsl 4 0 ks.length 4) [[.d (.int .i64 op), .d (.str name), .d (.int .i64 num), .d (.sl (ks.map Tr.d))], [.d (knD l)], [.d (.int .i64 0), .d (.str ⟨#[]⟩), .d (.int .i64 0), .nils], [.d (knD (endK op num ks l 0 l ks))], flat ((Tr.puts op num ks l 0 l ks).map Tr.d)] rfl (c101r op num name ks l hlim hL (c195 op num name ks l hlim hL hks hI)) ?_
 refine Z92 ?_;refine Z114 ?_;refine Z7 ?_;refine Z273 ?_;refine Z6 ?_
 refine fincn [[.undef, .undef, .undef, .undef], [.undef], [.undef, .undef, .undef, .undef], [.undef], flat ((Tr.puts op num ks l 0 l ks).map Tr.d)] sz27 u27 (by simp) ?_ (by simp only [GS.ev, GS.get, List.lookup_cons, Nat.reduceBEq, Option.getD_some, Option.getD_none, List.lookup_nil, ofConst] <;> rfl) rfl rfl rfl (by exact of_decide_eq_true rfl) rfl rfl (by simp) (by repeat (first | exact MSub.nil | (refine MSub.cons (by first | exact CSub_flat _ _ | (repeat (first | exact CSub.nil | refine CSub.cons (by first | exact .inl rfl | exact .inr (.inl rfl)) rfl ?_))) ?_)))
 exact ⟨rfl, rfl⟩
end Go.Proofs.YtklkbfpjimeaoaaGreat
namespace Go.Proofs.YtklkbfpjimeaoaaGreat
open Go Go.Proofs.YtklkbfpjimeaoaaGreat.E
theorem all_zip {α : Type} (q : α → Bool) : ∀ (xs : List α), (xs.zipIdx.all fun x => q x.1) = xs.all q := by
 intro xs
 rw [Bool.eq_iff_iff, List.all_eq_true, List.all_eq_true]
 constructor
 · intro h x hx
   obtain ⟨i, hi⟩ := List.getElem?_of_mem hx
   exact h (x, i) (List.mem_zipIdx_iff_getElem?.2 hi)
 · rintro h ⟨x, i⟩ hx
   exact h x (List.mem_of_getElem? (List.mem_zipIdx_iff_getElem?.1 hx))
def allE (ks : List Tr) : Bool := ks.all fun k => isExprB k.op
theorem kidsB_e {s : ByteArray} (hs : ∀ i, i < s.size → s[i]! = 101) (ks : List Tr) : kidsB ks s = (decide (ks.length = s.size) && allE ks) := by
 unfold kidsB
 by_cases h : ks.length = s.size
 · rw [decide_eq_true h, Bool.true_and, Bool.true_and, allE, ← all_zip (fun k : Tr => isExprB k.op)]
   rw [Bool.eq_iff_iff, List.all_eq_true, List.all_eq_true]
   have hk : ∀ x ∈ ks.zipIdx, kindOk ((s[x.2]!).toNat : Nat) x.1.op = isExprB x.1.op := by
    rintro ⟨k, i⟩ hx
    have hi := (List.getElem?_eq_some_iff.1 (List.mem_zipIdx_iff_getElem?.1 hx)).1
    show kindOk ((s[i]!).toNat : Nat) k.op = _
    rw [hs i (by omega)]
    rfl
   constructor
   · intro h x hx; rw [← hk x hx]; exact h x hx
   · intro h x hx; rw [hk x hx]; exact h x hx
 · rw [decide_eq_false h, Bool.false_and, Bool.false_and]
theorem e1s : ∀ i, i < e1.size → e1[i]! = 101 := by decide
theorem e2s : ∀ i, i < ee.size → ee[i]! = 101 := by decide
theorem e3s : ∀ i, i < eee.size → eee[i]! = 101 := by decide
theorem exs (n : Nat) : ∀ i, i < (eee.extract 0 n).size → (eee.extract 0 n)[i]! = 101 := by
 intro i hi
 have h3 : eee.size = 3 := rfl
 rw [ByteArray.size_extract] at hi
 have hlt : i < 3 := by omega
 have hn : i < n := by omega
 have hi' : i < (eee.extract 0 n).size := by rw [ByteArray.size_extract]; exact hi
 rw [getElem!_pos (eee.extract 0 n) i hi', ByteArray.getElem_extract]
 have h := e3s i (by rw [h3]; exact hlt)
 rw [getElem!_pos eee i (by rw [h3]; exact hlt)] at h
 simpa using h
def Kin (f : Tr → Tr) (ks : List Tr) : Prop := ∀ k ∈ ks, isExprB (f k).op = isExprB k.op ∧ ((f k).op == 30) = (k.op == 30)
variable {f : Tr → Tr} {ks : List Tr}
theorem Kin.allE (h : Kin f ks) : allE (ks.map f) = allE ks := by
 unfold Go.Proofs.YtklkbfpjimeaoaaGreat.allE
 rw [Bool.eq_iff_iff, List.all_map, List.all_eq_true, List.all_eq_true]
 constructor
 · intro h1 k hk; rw [← (h k hk).1]; exact h1 k hk
 · intro h1 k hk; show isExprB (f k).op = true; rw [(h k hk).1]; exact h1 k hk
theorem Kin.kidsB (h : Kin f ks) {s : ByteArray} (hs : ∀ i, i < s.size → s[i]! = 101) : kidsB (ks.map f) s = kidsB ks s := by
 rw [kidsB_e hs, kidsB_e hs, h.allE, List.length_map]
theorem Kin.every (h : Kin f ks) : everyB (fun op => isExprB op || op == 30) (ks.map f) = everyB (fun op => isExprB op || op == 30) ks := by
 unfold everyB
 rw [List.any_map]
 congr 1
 rw [Bool.eq_iff_iff, List.any_eq_true, List.any_eq_true]
 have he : ∀ k ∈ ks, ((fun k : Tr => !(isExprB k.op || k.op == 30)) ∘ f) k = !(isExprB k.op || k.op == 30) := fun k hk => by
  show (!(isExprB (f k).op || (f k).op == 30)) = _
  rw [(h k hk).1, (h k hk).2]
 constructor
 · rintro ⟨k, hk, h1⟩; exact ⟨k, hk, by rw [← he k hk]; exact h1⟩
 · rintro ⟨k, hk, h1⟩; exact ⟨k, hk, by rw [he k hk]; exact h1⟩
theorem Kin.forms (h : Kin f ks) {op num : Int} {nm : ByteArray} {ts : List ByteArray} (hs : ∀ s ∈ ts, ∀ i, i < s.size → s[i]! = 101) : formsB ts (.mk op nm num (ks.map f)) = formsB ts (.mk op nm num ks) := by
 unfold formsB
 rw [Bool.eq_iff_iff, List.any_eq_true, List.any_eq_true]
 constructor
 · rintro ⟨s, h1, h2⟩; exact ⟨s, h1, by rw [Tr.kids_mk] at h2 ⊢; rw [← h.kidsB (hs s h1)]; exact h2⟩
 · rintro ⟨s, h1, h2⟩; exact ⟨s, h1, by rw [Tr.kids_mk] at h2 ⊢; rw [h.kidsB (hs s h1)]; exact h2⟩
theorem Kin.tab (h : Kin f ks) {op num : Int} {nm : ByteArray} : ∀ x ∈ shapeTab, isExprB x.1 = true → x.2.ok (.mk op nm num (ks.map f)) = x.2.ok (.mk op nm num ks) := by
 intro x hx he
 simp only [shapeTab, List.mem_cons, List.not_mem_nil, or_false] at hx
 rcases hx with rfl | rfl | rfl | rfl | rfl | rfl | rfl | rfl | rfl | rfl | rfl | rfl | rfl | rfl | rfl | rfl | rfl | rfl | rfl | rfl | rfl | rfl | rfl | rfl | rfl | rfl | rfl | rfl | rfl | rfl | rfl | rfl | rfl <;> first | exact absurd he (by decide) | exact h.forms (by decide) | (show rule154 _ = rule154 _; unfold rule154; rw [Tr.kids_mk, Tr.kids_mk, List.length_map]; rfl)
theorem shGet_tab {op : Int} {s : Sh} (h : shGet op = some s) : ∃ x ∈ shapeTab, x.1 = op ∧ x.2 = s := by
 unfold shGet at h
 cases hf : shapeTab.find? (fun x => decide (x.1 = op)) with
 | none => rw [hf] at h; cases h
 | some x =>
  rw [hf] at h
  injection h with h
  exact ⟨x, List.mem_of_find?_eq_some hf, by simpa using List.find?_some hf, h⟩
theorem ne_of_expr {op k : Int} (ho : isExprB op = true) (hk : isExprB k = false) : (op == k) = false := by
 rw [beq_eq_false_iff_ne]
 rintro rfl
 rw [ho] at hk
 cases hk
theorem Kin.right (h : Kin f ks) {op num : Int} {nm : ByteArray} (ho : isExprB op = true) : rightB (.mk op nm num (ks.map f)) = rightB (.mk op nm num ks) := by
 have h2 : otherB (.mk op nm num (ks.map f)) = otherB (.mk op nm num ks) := by
  rw [otherB, otherB, h.every, h.kidsB (exs _), h.kidsB e2s, h.kidsB e1s, List.length_map, ne_of_expr ho (show isExprB 30 = false from rfl), ne_of_expr ho (show isExprB 50 = false from rfl)]
  simp only [Bool.false_eq_true, if_false]
 rw [rightB, rightB, h2]
 cases hs : shGet op with
 | none => rfl
 | some s =>
  obtain ⟨x, hx, rfl, rfl⟩ := shGet_tab hs
  have ht := h.tab (op := x.1) (num := num) (nm := nm) x hx ho
  obtain ⟨xo, nms, nb, g, caps, ok⟩ := x
  dsimp only at ht ⊢
  rw [ht]
theorem kl_snoc (l : List (ByteArray × Tr)) (c : ByteArray × Tr) : kl (l ++ [c]) = (c.1, some c.2) :: kl l := by
 unfold kl
 rw [List.map_append, List.reverse_append]; rfl
end Go.Proofs.YtklkbfpjimeaoaaGreat
namespace Go.Proofs.YtklkbfpjimeaoaaGreat
open Go Go.Proofs.YtklkbfpjimeaoaaGreat.E
theorem c81 (op : Int) : Pf Tryz.prog 81 [.int .i64 op] (.d (.bool (isExprB op))) := by
 refine pf_body (rvs := [.tmp 2]) [(0, .d (.int .i64 op))] Tryz.func81 Tryz.ntmps81 Tryz.results81 (fun S0 O0 w0 m0 hm0 => ?_)
 refine Z249 ?_;refine Z52 ?_;refine Z205 ?_;refine Z122 ?_;refine Z8 ?_;refine Z205 ?_;refine Z167 ?_;refine Z228 ?_
 exact ⟨by simp [isExprB, Bool.and_assoc], rfl⟩
theorem c96 (op : Int) : Pf Tryz.prog 96 [.int .i64 op] (.d (.bool (isStmtB op))) := by
 refine pf_body (rvs := [.tmp 2]) [(0, .d (.int .i64 op))] Tryz.func96 Tryz.ntmps96 Tryz.results96 (fun S0 O0 w0 m0 hm0 => ?_)
 refine Z249 ?_;refine Z52 ?_;refine Z205 ?_;refine Z122 ?_;refine Z228 ?_
 exact ⟨by simp [isStmtB, Bool.and_assoc], rfl⟩
def lettR (c : Int) : Bool := (decide (c ≥ 97) && decide (c ≤ 122)) || (decide (c ≥ 65) && decide (c ≤ 90))
theorem by_get {s : ByteArray} {z : Nat} {c : UInt8} (h : s.data.toList[z]? = some c) : s[z]! = c := by
 obtain ⟨hlt, he⟩ := List.getElem?_eq_some_iff.1 h
 have hs : z < s.size := by rw [← bytes_len]; exact hlt
 rw [getElem!_pos s z hs, ← he]; rfl
theorem kind_eq (c op : Int) : kindOk c op = !(((c == 101 && !isExprB op) || (c == 98 && op != 66)) || (c == 110 && op != 4)) := by
 unfold kindOk
 by_cases h1 : c = 101
 · subst h1; simp
 · by_cases h2 : c = 98
   · subst h2; simp [bne]
     cases h : (op == 66) <;> simp_all
   · by_cases h3 : c = 110
     · subst h3; simp [bne]
       cases h : (op == 4) <;> simp_all
     · simp [h1, h2, h3]
theorem c240 (c : Int) : Pf Tryz.prog 240 [.int .u8 c] (.d (.bool (lettR c))) := by
 refine pf_body (rvs := [.tmp 2]) [(0, .d (.int .u8 c))] Tryz.func240 Tryz.ntmps240 Tryz.results240 (fun S0 O0 w0 m0 hm0 => ?_)
 refine Z249 ?_;refine Z52 ?_;refine Z205 ?_;refine Z122 ?_;refine Z8 ?_;refine Z205 ?_
 refine sg rfl (fun hg => sP 10 rfl hg q_geq) ?_
 refine sg rfl (fun hg => sP 11 rfl hg qM) ?_
 refine Z21 ?_
 refine sg rfl (fun hg => sP 13 rfl hg q_leq) ?_
 refine sg rfl (fun hg => sP 12 rfl hg q_and) ?_
 refine Z24 ?_;refine Z195 ?_
 exact ⟨rfl, rfl⟩
set_option maxHeartbeats 1000000 in
theorem c174 (s : ByteArray) : Pf Tryz.prog 174 [.str s] (.d (.bool (nameB s))) := by
 refine pf_body (rvs := [.tmp 2]) [(0, .d (.str s))] Tryz.func174 Tryz.ntmps174 Tryz.results174 (fun S0 O0 w0 m0 hm0 => ?_)
 refine Z263 ?_;refine Z84 ?_;refine Z27 ?_;refine Z205 ?_
 refine sg rfl (fun hg => sP 8 rfl hg (q_lenstr u9)) ?_
 refine sg rfl (fun hg => sP 9 rfl hg q_gtr) ?_
 refine Z209 ?_
 refine gC (fun hb0 => ?_) (fun hb0 => ?_)
 ·
  have hnm : nameB s = false := by unfold nameB; rw [hb0]; rfl
  refine Z264 ?_
  exact ⟨by rw [hnm], rfl⟩
 have hsz : 1 ≤ s.size ∧ s.size ≤ 40 := by
  simp only [Bool.or_eq_false_iff, decide_eq_false_iff_not] at hb0
  omega
 refine Z58 ?_;refine Z243 ?_
 refine g_loop (α := Nat) (fun z => ⟨[(3, .d (.int .i64 (z : Nat))), (0, .d (.str s))], []⟩) (fun z => s.size - z) (fun z => z ≤ s.size ∧ ∀ i, i < z → ∀ c, s.data.toList[i]? = some c → charOk i (c.toNat : Nat) = true) 0 ⟨Nat.zero_le _, by simp⟩ (fun z hz Q' hn0 he0 hr0 => ?_) (le_of)
 obtain ⟨hz1, hz2⟩ := hz
 refine Z35 ?_;refine Z198 ?_;refine Z84 ?_;refine Z227 ?_
 refine gC (fun hb1 => ?_) (fun hb1 => ?_)
 ·
  have hlt : z < s.size := by
   have : (z : Int) < (s.size : Nat) := by simpa using hb1
   omega
  obtain ⟨c, hc⟩ : ∃ c, s.data.toList[z]? = some c := ⟨_, List.getElem?_eq_getElem (by rw [bytes_len]; exact hlt)⟩
  have hcc := by_get hc
  refine Z41 ?_;refine Z198 ?_
  refine vq rfl ((q_strindex u9)) ?_
  refine gL (xs := [.tmp 20]) rfl (c240 _) ?_
  refine Z37 ?_;refine Z205 ?_;refine Z21 ?_
  refine sg rfl (fun hg => sP 25 rfl hg (sP 24 rfl hg (q_strindex u9))) ?_
  refine sg rfl (fun hg => sP 26 rfl hg q_neq) ?_
  refine Z8 ?_;refine Z205 ?_
  refine sg rfl (fun hg => sP 30 rfl hg q_eql) ?_
  refine sg rfl (fun hg => sP 31 rfl hg qM) ?_
  refine Z21 ?_;refine Z21 ?_
  refine sg rfl (fun hg => sP 34 rfl hg (sP 33 rfl hg (q_strindex u9))) ?_
  refine sg rfl (fun hg => sP 35 rfl hg q_lss) ?_
  refine sg rfl (fun hg => sP 32 rfl hg q_or) ?_
  refine sg rfl (fun hg => sP 37 rfl hg qM) ?_
  refine Z21 ?_;refine Z21 ?_
  refine sg rfl (fun hg => sP 40 rfl hg (sP 39 rfl hg (q_strindex u9))) ?_
  refine sg rfl (fun hg => sP 41 rfl hg q_gtr) ?_
  refine sg rfl (fun hg => sP 38 rfl hg q_or) ?_
  refine Z238 ?_
  refine gC (fun hb2 => ?_) (fun hb2 => ?_)
  ·
   have hch : charOk z (c.toNat : Nat) = false := by
    simp only [Int.toNat_natCast, hcc, lettR, Bool.and_eq_true, Bool.or_eq_true, Bool.not_eq_true', Bool.not_eq_false', Bool.or_eq_false_iff, Bool.and_eq_false_iff, decide_eq_true_eq, decide_eq_false_iff_not, beq_iff_eq, beq_eq_false_iff_ne, bne_iff_ne, bne_eq_false_iff_eq] at hb2
    simp only [charOk, letterB, Bool.or_eq_false_iff, Bool.and_eq_false_iff, Bool.not_eq_false', decide_eq_true_eq, decide_eq_false_iff_not]
    omega
   refine Z15 ?_
   refine gP [0, 2, 3] ?_
   refine Z4 ?_;refine Z197 ?_
   refine hr0 _ ?_
   refine Z265 ?_
   exact ⟨by rw [nameB, zipIdx_not (p := fun i (c : UInt8) => charOk i (c.toNat : Nat)) hc hch, Bool.and_false], rfl⟩
  have hch : charOk z (c.toNat : Nat) = true := by
   simp only [Int.toNat_natCast, hcc, lettR, Bool.and_eq_true, Bool.or_eq_true, Bool.not_eq_true', Bool.not_eq_false', Bool.or_eq_false_iff, Bool.and_eq_false_iff, decide_eq_true_eq, decide_eq_false_iff_not, beq_iff_eq, beq_eq_false_iff_ne, bne_iff_ne, bne_eq_false_iff_eq] at hb2
   simp only [charOk, letterB, Bool.or_eq_true, Bool.and_eq_true, Bool.not_eq_true', decide_eq_true_eq, decide_eq_false_iff_not]
   omega
  refine Z102 ?_
  refine gP [0, 2, 3] ?_
  refine Z291 ?_
  refine hn0 _ (z + 1) ⟨by omega, upto_step (p := fun i (c : UInt8) => charOk i (c.toNat : Nat)) hz2 hc hch⟩ (by omega) le_of
 have hge : z = s.size := by
  have : ¬ (z : Int) < (s.size : Nat) := by simpa using hb1
  omega
 refine Z34 ?_
 refine he0 _ _ ?_
 refine Z270 ?_
 exact ⟨by rw [nameB, zipIdx_all (p := fun i (c : UInt8) => charOk i (c.toNat : Nat)) (fun i hi x hx => hz2 i (by rw [bytes_len] at hi; omega) x hx)]; simp; omega, rfl⟩
theorem c176 (ts : List ByteArray) (v : ByteArray) (hlim : ts.length ≤ 140737488355328) : Pf Tryz.prog 176 [.sl (ts.map .str), .str v] (.d (.bool (hasB ts v))) := by
 refine pf_body (rvs := [.tmp 4]) [(0, .d (.sl (ts.map .str))), (1, .d (.str v))] Tryz.func176 Tryz.ntmps176 Tryz.results176 (fun S0 O0 w0 m0 hm0 => ?_)
 refine Z2 ?_;refine Z201 ?_;refine Z243 ?_
 refine g_loop (α := Nat) (fun z => ⟨[(5, .d (.int .i64 (z : Nat))), (1, .d (.str v)), (0, .d (.sl (ts.map .str)))], []⟩) (fun z => ts.length - z) (fun z => z ≤ ts.length ∧ ∀ i, i < z → ∀ x, ts[i]? = some x → (fun s => decide (v = s)) x = false) 0 ⟨Nat.zero_le _, by simp⟩ (fun z hz Q' hn0 he0 hr0 => ?_) (le_of)
 obtain ⟨hz1, hz2⟩ := hz
 refine Z35 ?_;refine Z198 ?_
 refine vq rfl (q_len u63) ?_
 refine Z227 ?_
 refine gC (fun hb0 => ?_) (fun hb0 => ?_)
 ·
  have hlt : z < ts.length := by simpa using hb0
  obtain ⟨x, hx⟩ : ∃ x, ts[z]? = some x := ⟨_, List.getElem?_eq_getElem hlt⟩
  have hmem := List.mem_of_getElem? hx
  have hxd := strs_get hx
  refine Z41 ?_;refine Z198 ?_
  refine vq rfl (qI u63 sz9) ?_
  refine Z31 ?_;refine Z1 ?_;refine Z44 ?_;refine Z3 ?_
  refine gC (fun hb1 => ?_) (fun hb1 => ?_)
  ·
   refine Z2 ?_;refine Z197 ?_
   refine hr0 _ ?_
   refine Z265 ?_
   exact ⟨by rw [show hasB ts v = true from List.any_eq_true.2 ⟨x, hmem, by have := of_decide_eq_true hb1; exact decide_eq_true this.symm⟩], rfl⟩
  refine Z70 ?_;refine Z240 ?_
  refine hn0 _ (z + 1) ⟨by omega, idxL_step hz2 hx (by have := of_decide_eq_false hb1; exact decide_eq_false (fun e => this e.symm))⟩ (by omega) le_of
 have hge : z = ts.length := by
  have : ¬ (z : Int) < (ts.map D.str).length := by simpa using hb0
  rw [List.length_map] at this
  omega
 refine Z34 ?_
 refine he0 _ _ ?_
 refine Z270 ?_
 exact ⟨by rw [show hasB ts v = false from List.any_eq_false.2 (fun x hx => by obtain ⟨i, hi⟩ := List.getElem?_of_mem hx; have := hz2 i (by have := (List.getElem?_eq_some_iff.1 hi).1; omega) x hi; simpa using this)], rfl⟩
def bareB (t : Tr) : Bool := decide (t.nm = ⟨#[]⟩) && t.nu == 0
theorem c177 (t : Tr) : Pf Tryz.prog 177 [t.d] (.d (.bool (bareB t))) := by
 obtain ⟨op, name, num, ks⟩ := t
 rw [Tr.d_mk]
 try simp only [Tr.op_mk, Tr.nm_mk, Tr.nu_mk, Tr.kids_mk]
 refine pf_body (rvs := [.tmp 2]) [(0, .d (.agg [.int .i64 op, .str name, .int .i64 num, .sl (ks.map Tr.d)]))] Tryz.func177 Tryz.ntmps177 Tryz.results177 (fun S0 O0 w0 m0 hm0 => ?_)
 refine Z202 ?_
 refine gF 0 [] (.agg [.int .i64 op, .str name, .int .i64 num, .sl (ks.map Tr.d)]) rfl ?_
 refine Z194 ?_;refine Z212 ?_;refine Z44 ?_;refine Z206 ?_;refine Z108 ?_;refine Z137 ?_;refine Z228 ?_
 exact ⟨rfl, rfl⟩
set_option maxHeartbeats 4000000 in
theorem c239 (t : Tr) (s : ByteArray) (hok : t.Ok) : Pf Tryz.prog 239 [t.d, .str s] (.d (.bool (kidsB t.kids s))) := by
 obtain ⟨op, name, num, ks⟩ := t
 rw [Tr.d_mk]
 try simp only [Tr.op_mk, Tr.nm_mk, Tr.nu_mk, Tr.kids_mk]
 cases hok with | mk h1 h2 h3 h4 h5 =>
 refine pf_body (rvs := [.tmp 4]) [(0, .d (.agg [.int .i64 op, .str name, .int .i64 num, .sl (ks.map Tr.d)])), (1, .d (.str s))] Tryz.func239 Tryz.ntmps239 Tryz.results239 (fun S0 O0 w0 m0 hm0 => ?_)
 refine Z202 ?_
 refine gF 0 [] (.agg [.int .i64 op, .str name, .int .i64 num, .sl (ks.map Tr.d)]) rfl ?_
 refine Z201 ?_;refine Z236 ?_;refine Z1 ?_;refine Z84 ?_;refine Z230 ?_
 refine gC (fun hb0 => ?_) (fun hb0 => ?_)
 ·
  have hne : ¬ ks.length = s.size := by
   simp at hb0
   omega
  refine Z264 ?_
  exact ⟨by rw [kidsB]; simp [Tr.kids, hne], rfl⟩
 have hle : ks.length = s.size := by
  simp at hb0
  omega
 refine Z58 ?_;refine Z243 ?_
 refine g_loop (α := Nat) (fun z => ⟨[(5, .d (.int .i64 (z : Nat))), (2, .d (.ptr (.agg [.int .i64 op, .str name, .int .i64 num, .sl (ks.map Tr.d)]))), (1, .d (.str s))], []⟩) (fun z => ks.length - z) (fun z => z ≤ ks.length ∧ ∀ i, i < z → ∀ k, ks[i]? = some k → kindOk ((s[i]!).toNat : Nat) k.op = true) 0 ⟨Nat.zero_le _, by simp⟩ (fun z hz Q' hn0 he0 hr0 => ?_) (le_of)
 obtain ⟨hz1, hz2⟩ := hz
 refine Z35 ?_;refine Z198 ?_;refine Z84 ?_;refine Z227 ?_
 refine gC (fun hb1 => ?_) (fun hb1 => ?_)
 ·
  have hlt : z < s.size := by
   have : (z : Int) < (s.size : Nat) := by simpa using hb1
   omega
  obtain ⟨k, hk⟩ : ∃ k, ks[z]? = some k := ⟨_, List.getElem?_eq_getElem (by omega)⟩
  have hmem := List.mem_of_getElem? hk
  have hxd := Tr.ds_get hk
  have hxa := hxd
  obtain ⟨kop, knm, knu, kks, hka⟩ := k.d_agg
  rw [hka] at hxa
  have hkop : k.op = kop := by obtain ⟨o, n, u, l⟩ := k; rw [Tr.d_mk] at hka; injection hka with hka; injection hka with hka; injection hka
  refine Z41 ?_;refine Z252 ?_;refine Z32 ?_;refine Z199 ?_;refine Z275 ?_
  refine vq rfl ((q_strindex u9)) ?_
  refine Z9 ?_;refine Z205 ?_
  refine g_callg (xs := [.tmp 30]) rfl (fun hg => c81 kop) ?_
  refine sg rfl (fun hg => sP 31 rfl hg q_not) ?_
  refine Z8 ?_;refine Z205 ?_;refine Z21 ?_
  refine sg rfl (fun hg => sP 36 rfl hg (sP 35 rfl hg (q_strindex u9))) ?_
  refine sg rfl (fun hg => sP 37 rfl hg q_eql) ?_
  refine sg rfl (fun hg => sP 38 rfl hg qM) ?_
  refine Z21 ?_
  refine sg rfl (fun hg => sP 40 rfl hg q_neq) ?_
  refine sg rfl (fun hg => sP 39 rfl hg q_and) ?_
  refine Z24 ?_;refine Z205 ?_;refine Z21 ?_
  refine sg rfl (fun hg => sP 46 rfl hg (sP 45 rfl hg (q_strindex u9))) ?_
  refine sg rfl (fun hg => sP 47 rfl hg q_eql) ?_
  refine sg rfl (fun hg => sP 48 rfl hg qM) ?_
  refine Z21 ?_
  refine sg rfl (fun hg => sP 50 rfl hg q_neq) ?_
  refine sg rfl (fun hg => sP 49 rfl hg q_and) ?_
  refine Z209 ?_
  refine gC (fun hb2 => ?_) (fun hb2 => ?_)
  ·
   have hkk : kindOk ((s[z]!).toNat : Nat) k.op = false := by
    rw [kind_eq, hkop]
    simp only [Int.toNat_natCast] at hb2
    rw [hb2]; rfl
   refine Z2 ?_;refine Z197 ?_
   refine hr0 _ ?_
   refine Z265 ?_
   exact ⟨by rw [kidsB, zipIdx_not (p := fun i (k : Tr) => kindOk ((s[i]!).toNat : Nat) k.op) hk hkk, Bool.and_false], rfl⟩
  have hkk : kindOk ((s[z]!).toNat : Nat) k.op = true := by
   rw [kind_eq, hkop]
   simp only [Int.toNat_natCast] at hb2
   rw [hb2]; rfl
  refine Z70 ?_;refine Z240 ?_
  refine hn0 _ (z + 1) ⟨by omega, upto_step (p := fun i (k : Tr) => kindOk ((s[i]!).toNat : Nat) k.op) hz2 hk hkk⟩ (by omega) le_of
 have hge : z = ks.length := by
  have : ¬ (z : Int) < (s.size : Nat) := by simpa using hb1
  omega
 refine Z34 ?_
 refine he0 _ _ ?_
 refine Z270 ?_
 exact ⟨by rw [kidsB, zipIdx_all (p := fun i (k : Tr) => kindOk ((s[i]!).toNat : Nat) k.op) (fun i hi x hx => hz2 i (by have : i < ks.length := hi; omega) x hx)]; simp [Tr.kids, hle], rfl⟩
end Go.Proofs.YtklkbfpjimeaoaaGreat
