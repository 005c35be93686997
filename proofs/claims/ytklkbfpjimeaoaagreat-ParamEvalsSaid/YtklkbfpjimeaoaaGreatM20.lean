import Derived.Test.YtklkbfpjimeaoaaGreatM19
/- Contracts of functions. Conditions: none. -/
namespace Go.Proofs.YtklkbfpjimeaoaaGreat
open Go Go.Proofs.YtklkbfpjimeaoaaGreat.E
def loopsB (op num : Int) (n : Nat) : Bool := ((((op == 54 || op == 55) || op == 56) && decide (num ≥ 0)) && decide (num ≤ 2)) && decide ((n : Int) ≥ W (num + 2))
def hideK (nm : ByteArray) (l : KL) : KL := (nm, none) :: l
def bindK (ks : List Tr) (l : KL) : KL := ks.foldl (fun l k => hideK k.nm l) l
def keepsB (op num : Int) (n i : Nat) (k : Tr) : Bool := ((op == 51 && (i : Int) == 0) && k.op == 4) || (loopsB op num n && decide ((i : Int) < num))
mutual
def Tr.put : Tr → KL → Tr
  | .mk op nm num ks, l =>
    if (op == 4) = true then (match findK nm l with | some v => v | none => .mk op nm num ks)
    else if (op == 67) = true then .mk op nm num ks
    else .mk op nm num (Tr.puts op num ks l 0 l ks)
def Tr.puts (op num : Int) (all : List Tr) (l : KL) (i : Nat) (inner : KL) : List Tr → List Tr
  | [] => []
  | k :: r =>
    if keepsB op num all.length i k = true then k :: Tr.puts op num all l (i + 1) (if (k.op == 50) = true then hideK k.nm inner else inner) r
    else if (loopsB op num all.length && (i : Int) == W (num + 1)) = true then k.put (bindK (all.take num.toNat) inner) :: Tr.puts op num all l (i + 1) (if (k.op == 50) = true then hideK k.nm l else l) r
    else k.put inner :: Tr.puts op num all l (i + 1) (if (k.op == 50) = true then hideK k.nm inner else inner) r
end
theorem loops_num {op num : Int} {n : Nat} (h : loopsB op num n = true) : 0 ≤ num ∧ num ≤ 2 ∧ num + 2 ≤ n := by
  unfold loopsB at h
  simp only [Bool.and_eq_true, decide_eq_true_eq] at h
  obtain ⟨⟨⟨_, h1⟩, h2⟩, h3⟩ := h
  unfold W at h3
  rw [wrap_i64 (by omega) (by omega)] at h3
  omega
def hideV (k : Tr) (l : KL) : KL := if (k.op == 50) = true then hideK k.nm l else l
def stepT (op num : Int) (all : List Tr) (l : KL) (i : Nat) (inner : KL) (k : Tr) : Tr × KL :=
  if keepsB op num all.length i k = true then (k, hideV k inner)
  else if (loopsB op num all.length && (i : Int) == W (num + 1)) = true then (k.put (bindK (all.take num.toNat) inner), hideV k l)
  else (k.put inner, hideV k inner)
def endK (op num : Int) (all : List Tr) (l : KL) : Nat → KL → List Tr → KL
  | _, inner, [] => inner
  | i, inner, k :: r => endK op num all l (i + 1) (stepT op num all l i inner k).2 r
theorem puts_cons (op num : Int) (all : List Tr) (l : KL) (i : Nat) (inner : KL) (k : Tr) (r : List Tr) : Tr.puts op num all l i inner (k :: r) = (stepT op num all l i inner k).1 :: Tr.puts op num all l (i + 1) (stepT op num all l i inner k).2 r := by
  rw [Tr.puts, stepT]
  split
  · rfl
  · split <;> rfl
theorem puts_drop {op num : Int} {all ks : List Tr} {l : KL} {z : Nat} {k : Tr} (h : ks[z]? = some k) (inner : KL) : Tr.puts op num all l z inner (ks.drop z) = (stepT op num all l z inner k).1 :: Tr.puts op num all l (z + 1) (stepT op num all l z inner k).2 (ks.drop (z + 1)) := by
  obtain ⟨hlt, rfl⟩ := List.getElem?_eq_some_iff.1 h
  rw [List.drop_eq_getElem_cons hlt, puts_cons]
theorem endK_drop {op num : Int} {all ks : List Tr} {l : KL} {z : Nat} {k : Tr} (h : ks[z]? = some k) (inner : KL) : endK op num all l z inner (ks.drop z) = endK op num all l (z + 1) (stepT op num all l z inner k).2 (ks.drop (z + 1)) := by
  obtain ⟨hlt, rfl⟩ := List.getElem?_eq_some_iff.1 h
  rw [List.drop_eq_getElem_cons hlt, endK]
theorem puts_len (op num : Int) (all : List Tr) (l : KL) : ∀ (ks : List Tr) (i : Nat) (inner : KL), (Tr.puts op num all l i inner ks).length = ks.length := by
  intro ks
  induction ks with
  | nil => intro i inner; rw [Tr.puts]
  | cons k r ih => intro i inner; rw [puts_cons, List.length_cons, ih, List.length_cons]
def KLens (l : KL) : Prop := ∀ x ∈ l, ∀ t, x.2 = some t → t.Lens
theorem KLens.hide {l : KL} (h : KLens l) (nm : ByteArray) : KLens (hideK nm l) := fun x hx t ht => by
  rcases List.mem_cons.1 hx with rfl | hx
  · cases ht
  · exact h x hx t ht
theorem KLens.hideV {l : KL} (h : KLens l) (k : Tr) : KLens (hideV k l) := by
  unfold Go.Proofs.YtklkbfpjimeaoaaGreat.hideV
  split
  · exact h.hide _
  · exact h
theorem KLens.bind : ∀ (ks : List Tr) {l : KL}, KLens l → KLens (bindK ks l)
  | [], l, h => h
  | k :: r, l, h => by
    show KLens (bindK r (hideK k.nm l))
    exact KLens.bind r (h.hide _)
theorem KLens.step {op num : Int} {all : List Tr} {l inner : KL} (hl : KLens l) (hi : KLens inner) (i : Nat) (k : Tr) : KLens (stepT op num all l i inner k).2 := by
  unfold stepT
  split
  · exact hi.hideV k
  · split
    · exact hl.hideV k
    · exact hi.hideV k
theorem findK_lens {nm : ByteArray} : ∀ {l : KL}, KLens l → ∀ v, findK nm l = some v → v.Lens
  | [], _, v, h => by cases h
  | x :: r, hl, v, h => by
    rw [findK] at h
    split at h
    · exact hl x (by simp) v h
    · exact findK_lens (fun y hy => hl y (by simp [hy])) v h
theorem bindK_step {ks : List Tr} {z : Nat} {k : Tr} (h : ks[z]? = some k) (l : KL) : bindK (ks.take (z + 1)) l = hideK k.nm (bindK (ks.take z) l) := by
  unfold bindK
  rw [List.take_add_one, h, List.foldl_append]; rfl
theorem c196 (t : Tr) : Pf Tryz.prog 196 [t.d] (.d (.bool (loopsB t.op t.nu t.kids.length))) := by
  obtain ⟨op, name, num, ks⟩ := t
  rw [Tr.d_mk]
  try simp only [Tr.op_mk, Tr.nu_mk, Tr.kids_mk]
  refine pf_body (rvs := [.tmp 2]) [(0, .d (.agg [.int .i64 op, .str name, .int .i64 num, .sl (ks.map Tr.d)]))] Tryz.func196 Tryz.ntmps196 Tryz.results196 (fun S0 O0 w0 m0 hm0 => ?_)
  refine gS (gR ?_)
  refine sv rfl y_box ?_
  refine gF 0 [] (.agg [.int .i64 op, .str name, .int .i64 num, .sl (ks.map Tr.d)]) rfl ?_
  refine vq rfl qA ?_
  refine gN (tN (gS (gR ?_)))
  refine vq rfl (qF u27 rfl sz3) ?_
  refine vq rfl (qL u3) ?_
  refine vq rfl q_eql ?_
  refine vq rfl qM ?_
  refine sg rfl (fun hg => qF u27 rfl sz3) ?_
  refine sg rfl (fun hg => sP 7 rfl hg (qL u3)) ?_
  refine sg rfl (fun hg => sP 8 rfl hg q_eql) ?_
  refine vq rfl q_or ?_
  refine vq rfl qM ?_
  refine sg rfl (fun hg => qF u27 rfl sz3) ?_
  refine sg rfl (fun hg => sP 12 rfl hg (qL u3)) ?_
  refine sg rfl (fun hg => sP 13 rfl hg q_eql) ?_
  refine vq rfl q_or ?_
  refine vq rfl qM ?_
  refine sg rfl (fun hg => qF u27 rfl sz3) ?_
  refine sg rfl (fun hg => sP 17 rfl hg (qL u3)) ?_
  refine sg rfl (fun hg => sP 18 rfl hg q_geq) ?_
  refine vq rfl q_and ?_
  refine vq rfl qM ?_
  refine sg rfl (fun hg => qF u27 rfl sz3) ?_
  refine sg rfl (fun hg => sP 22 rfl hg (qL u3)) ?_
  refine sg rfl (fun hg => sP 23 rfl hg q_leq) ?_
  refine vq rfl q_and ?_
  refine vq rfl qM ?_
  refine sg rfl (fun hg => qF u27 rfl sz22) ?_
  refine sg rfl (fun hg => sP 27 rfl hg (qL u22)) ?_
  refine sg rfl (fun hg => sP 28 rfl hg (q_len u22)) ?_
  refine sg rfl (fun hg => qF u27 rfl sz3) ?_
  refine sg rfl (fun hg => sP 30 rfl hg (qL u3)) ?_
  refine sg rfl (fun hg => sP 31 rfl hg (q_add (hw := rfl))) ?_
  refine sg rfl (fun hg => sP 32 rfl hg (sP 29 rfl hg q_geq)) ?_
  refine vq rfl q_and ?_
  refine vq rfl qA ?_
  refine gN (tN (gT ?_))
  refine fin1 (by simp) ?_
  exact ⟨by (simp only [loopsB, List.length_map, W] <;> rfl), rfl⟩
theorem knD_cof (l : KL) : (PV.d (knD l)).cellsOf = [.d (knD l)] := by cases l <;> rfl
set_option maxHeartbeats 1000000 in
theorem c132 (l : KL) (nm : ByteArray) : Pf Tryz.prog 132 [knD l, .str nm] (.d (knD (hideK nm l))) := by
  refine pf_body (rvs := [.tmp 4]) [(0, .d (knD l)), (1, .d (.str nm))] Tryz.func132 Tryz.ntmps132 Tryz.results132 (fun S0 O0 w0 m0 hm0 => ?_)
  refine gS (gR ?_)
  refine vq rfl qA ?_
  refine gN (tN (gS ?_))
  rcases knD_or l with hkd | ⟨kd, hkd⟩ <;> rw [hkd]
  ·
    refine gR ?_
    refine vq rfl qM ?_
    refine vq rfl qM ?_
    refine vq rfl (q_buildS pl168 zr168) ?_
    refine sv rfl y_box ?_
    refine gF 0 [] (.agg [.str nm, .nil, .nil]) rfl ?_
    rw [show D.ptr (.agg [.str nm, .nil, .nil]) = knD (hideK nm l) from by rw [hideK, knD, valD, hkd]]
    refine vq rfl qA ?_
    refine gN (tN (gT ?_))
    refine fin1 (by simp) ?_
    exact ⟨rfl, rfl⟩
  refine gR ?_
  refine vq rfl qM ?_
  refine vq rfl qM ?_
  refine vq rfl (q_buildS pl168 zr168) ?_
  refine sv rfl y_box ?_
  refine gF 0 [] (.agg [.str nm, .nil, .ptr kd]) rfl ?_
  rw [show D.ptr (.agg [.str nm, .nil, .ptr kd]) = knD (hideK nm l) from by rw [hideK, knD, valD, hkd]]
  refine vq rfl qA ?_
  refine gN (tN (gT ?_))
  refine fin1 (by simp) ?_
  exact ⟨rfl, rfl⟩
set_option maxHeartbeats 4000000 in
theorem c197 (t : Tr) (l : KL) (h0 : 0 ≤ t.nu) (h1 : t.nu ≤ t.kids.length) (hlim : t.kids.length ≤ 1000000) : Pf Tryz.prog 197 [knD l, t.d] (.d (knD (bindK (t.kids.take t.nu.toNat) l))) := by
  obtain ⟨op, name, num, ks⟩ := t
  rw [Tr.d_mk]
  try simp only [Tr.nu_mk, Tr.kids_mk]
  try replace h0 : 0 ≤ num := h0
  try replace h1 : num ≤ ks.length := h1
  try replace hlim : ks.length ≤ 1000000 := hlim
  refine pf_body (rvs := [.tmp 4]) [(0, .d (knD l)), (1, .d (.agg [.int .i64 op, .str name, .int .i64 num, .sl (ks.map Tr.d)]))] Tryz.func197 Tryz.ntmps197 Tryz.results197 (fun S0 O0 w0 m0 hm0 => ?_)
  refine gS (gR ?_)
  refine sv rfl y_box ?_
  refine gF 0 [] (.agg [.int .i64 op, .str name, .int .i64 num, .sl (ks.map Tr.d)]) rfl ?_
  refine vq rfl qA ?_
  refine gN (tN (gS (gS (gR ?_))))
  refine vq rfl (qF u27 rfl sz22) ?_
  refine vq rfl (qL u22) ?_
  refine vq rfl (qF u27 rfl sz3) ?_
  refine vq rfl (qL u3) ?_
  refine vq rfl ((q_sliceh u22 sz27 (Tr.ds_cells ks))) ?_
  refine vq rfl (q_len u22) ?_
  refine vq rfl qM ?_
  refine gN (tN (G_block ?_))
  refine g_loop (α := Nat) (fun z => ⟨[(13, .d (.int .i64 (z : Nat))), (12, .d (.int .i64 (((ks.map Tr.d).take num.toNat).length : Nat))), (11, .d (.sl ((ks.map Tr.d).take num.toNat))), (0, .d (knD (bindK (ks.take z) l)))], []⟩) (fun z => num.toNat - z) (fun z => z ≤ num.toNat) 0 (Nat.zero_le _) (fun z hz Q' hn0 he0 hr0 => ?_) (le_of)
  have hll : ((ks.map Tr.d).take num.toNat).length = num.toNat := by rw [List.length_take, List.length_map]; omega
  have hcc : ∀ x ∈ (ks.map Tr.d).take num.toNat, x.cells.length = 4 := fun x hx => Tr.ds_cells ks x (List.mem_of_mem_take hx)
  refine gS (gR ?_)
  refine vq rfl q_lss ?_
  refine gN (tN (gS ?_))
  refine gC (fun hb0 => ?_) (fun hb0 => ?_)
  ·
    have hlt : z < num.toNat := by
      have h1 : (z : Int) < ((ks.map Tr.d).take num.toNat).length := by simpa using hb0
      rw [List.length_take, List.length_map] at h1
      omega
    obtain ⟨k, hk⟩ : ∃ k, ks[z]? = some k := ⟨_, List.getElem?_eq_getElem (by omega)⟩
    have hmem := List.mem_of_getElem? hk
    obtain ⟨kop, knm, knu, kks, hke⟩ : ∃ op nm nu ks', k = .mk op nm nu ks' := by cases k; exact ⟨_, _, _, _, rfl⟩
    subst hke
    have hxd : ((ks.map Tr.d).take num.toNat)[z]? = some (.agg [.int .i64 kop, .str knm, .int .i64 knu, .sl (kks.map Tr.d)]) := by rw [List.getElem?_take_of_lt hlt, Tr.ds_get hk, Tr.d_mk]
    have hbs := bindK_step hk l
    refine gK (tN (gS (G_block (gS (gR ?_)))))
    refine vq rfl (qI u22 sz27) ?_
    refine vq rfl (qG (by exact sz27) u27 rfl) ?_
    refine sv rfl (y_alloc zr27) ?_
    refine sa rfl (dS sz27) ?_
    refine gF 0 [] (.agg [.int .i64 kop, .str knm, .int .i64 knu, .sl (kks.map Tr.d)]) rfl ?_
    refine gN (tN (gR ?_))
    refine vq rfl qM ?_
    refine vq rfl (qF u27 rfl sz9) ?_
    refine vq rfl (qL u9) ?_
    refine gL (xs := [.tmp 17, .tmp 19]) rfl (c132 (bindK (ks.take z) l) knm) ?_
    rw [← show bindK (ks.take (z + 1)) l = hideK knm (bindK (ks.take z) l) from hbs]
    refine vq rfl qA ?_
    refine gN (bN (tN (gR ?_)))
    refine vq rfl q_add ?_
    refine vq rfl qM ?_
    refine gN ?_
    refine hn0 _ (z + 1) (by omega) (by omega) le_of
  have hge : z = num.toNat := by
    have h1 : ¬ (z : Int) < ((ks.map Tr.d).take num.toNat).length := by simpa using hb0
    omega
  refine G_exit (thn_exit ?_)
  refine he0 _ _ ?_
  refine blk_exit (tN (gS (gR ?_)))
  refine vq rfl qM ?_
  refine vq rfl qA ?_
  refine gN (tN (gT ?_))
  refine fin1 (by simp) ?_
  exact ⟨by rw [hge], rfl⟩
set_option maxHeartbeats 8000000 in
theorem c101p (op num : Int) (name : ByteArray) (ks : List Tr) (l : KL) (hlim : ks.length ≤ 1000000) (hL : KLens l)
    (hcb : ∀ (z : Nat) (k : Tr) (inner : KL), ks[z]? = some k → KLens inner → Gm Tryz.prog 195 [.d (.int .i64 (z : Nat)), .d k.d, .ref 0 0, .ref 1 0, .ref 2 0] [[.d (.int .i64 op), .d (.str name), .d (.int .i64 num), .d (.sl (ks.map Tr.d))], [.d (knD inner)], [.d (knD l)]] (.d (stepT op num ks l z inner k).1.d) [[.d (.int .i64 op), .d (.str name), .d (.int .i64 num), .d (.sl (ks.map Tr.d))], [.d (knD (stepT op num ks l z inner k).2)], [.d (knD l)]]) : Gm Tryz.prog 101 [.d (.sl (ks.map Tr.d)), .fn (.func 195) [] [.ref 0 0, .ref 1 0, .ref 2 0]] [[.d (.int .i64 op), .d (.str name), .d (.int .i64 num), .d (.sl (ks.map Tr.d))], [.d (knD l)], [.d (knD l)]] (.d (.sl ((Tr.puts op num ks l 0 l ks).map Tr.d))) [[.d (.int .i64 op), .d (.str name), .d (.int .i64 num), .d (.sl (ks.map Tr.d))], [.d (knD (endK op num ks l 0 l ks))], [.d (knD l)]] := by
  refine gm_body (rvs := [.tmp 4]) 3 [(0, .d (.sl (ks.map Tr.d))), (1, .fn (.func 195) [] [.ref 0 0, .ref 1 0, .ref 2 0])] Tryz.func101 Tryz.ntmps101 Tryz.results101 (fun S0 O0 w0 m0 hm0 => ?_)
  refine gS (gR ?_)
  refine vq rfl qA ?_
  refine gN (tN (gS (gR ?_)))
  refine vq rfl qA ?_
  refine gN (tN (gS (gS (gR ?_))))
  refine vq rfl qM ?_
  refine vq rfl (q_len u22) ?_
  refine vq rfl qM ?_
  refine gN (tN (G_block ?_))
  refine g_loop (α := Nat × List Tr × KL) (fun z => ⟨[(10, .d (.int .i64 (z.1 : Nat))), (9, .d (.int .i64 ((ks.map Tr.d).length : Nat))), (8, .d (.sl (ks.map Tr.d))), (5, .osl 4 (z.2.1.map Tr.d)), (1, .fn (.func 195) [] [.ref 0 0, .ref 1 0, .ref 2 0])], [[.d (.int .i64 op), .d (.str name), .d (.int .i64 num), .d (.sl (ks.map Tr.d))], [.d (knD z.2.2)], [.d (knD l)]]⟩) (fun z => ks.length - z.1) (fun z => z.1 ≤ ks.length ∧ z.2.1.length = z.1 ∧ KLens z.2.2 ∧ z.2.1 ++ Tr.puts op num ks l z.1 z.2.2 (ks.drop z.1) = Tr.puts op num ks l 0 l ks ∧ endK op num ks l z.1 z.2.2 (ks.drop z.1) = endK op num ks l 0 l ks) (0, [], l) ⟨Nat.zero_le _, rfl, hL, rfl, rfl⟩ (fun z hz Q' hn0 he0 hr0 => ?_) (le_of)
  obtain ⟨z, acc, inner⟩ := z
  obtain ⟨hz1, hz2, hz3, hz4, hz5⟩ := hz
  replace hz1 : z ≤ ks.length := hz1
  replace hz2 : acc.length = z := hz2
  replace hz3 : KLens inner := hz3
  replace hz4 : acc ++ Tr.puts op num ks l z inner (ks.drop z) = Tr.puts op num ks l 0 l ks := hz4
  replace hz5 : endK op num ks l z inner (ks.drop z) = endK op num ks l 0 l ks := hz5
  refine gS (gR ?_)
  refine vq rfl q_lss ?_
  refine gN (tN (gS ?_))
  refine gC (fun hb0 => ?_) (fun hb0 => ?_)
  ·
    have hlt : z < ks.length := by simpa using hb0
    obtain ⟨k, hk⟩ : ∃ k, ks[z]? = some k := ⟨_, List.getElem?_eq_getElem hlt⟩
    have hmem := List.mem_of_getElem? hk
    have hxd := Tr.ds_get hk
    have hxa := hxd
    obtain ⟨kop, knm, knu, kks, hka⟩ := k.d_agg
    rw [hka] at hxa
    have hfa := (stepT op num ks l z inner k).1.d_eta
    refine gK (tN (gS (G_block (gS (gR ?_)))))
    refine vq rfl qM ?_
    refine vq rfl (qI u22 sz27) ?_
    refine vq rfl (qG (by exact sz27) u27 rfl) ?_
    refine sv rfl (y_alloc zr27) ?_
    refine vq rfl qA ?_
    refine sa rfl (dS sz27) ?_
    refine gF 3 [[.d (.int .i64 op), .d (.str name), .d (.int .i64 num), .d (.sl (ks.map Tr.d))], [.d (knD inner)], [.d (knD l)]] (.agg [.int .i64 kop, .str knm, .int .i64 knu, .sl (kks.map Tr.d)]) rfl ?_
    refine gN (tN (gR ?_))
    refine sv rfl y_move_take ?_
    refine vq rfl qM ?_
    refine vq rfl qM ?_
    refine vq rfl (qG (by exact sz27) u27 rfl) ?_
    refine g_callm [0, 1, 2] rfl (hfa ▸ hka ▸ hcb z k inner hk hz3) ?_
    refine sv rfl (y_buildSlice (xs := [.tmp 19]) u22 inf27) ?_
    refine sv rfl (y_append u22 inf27 (hk := by first | exact Tr.ds_cells _ | (intro x hx; simp at hx; subst hx; simp [D.cells])) (hlen := by simp [lim]; omega) (hB := by simp [lim]; omega)) ?_
    rw [← hfa, show acc.map Tr.d ++ [(stepT op num ks l z inner k).1.d] = (acc ++ [(stepT op num ks l z inner k).1]).map Tr.d from by rw [List.map_append]; rfl]
    refine sv rfl y_assign_take ?_
    refine gN (bN (tN ?_))
    refine gP [0, 1, 4, 5, 6, 7, 8, 9, 10] ?_
    refine gR ?_
    refine vq rfl q_add ?_
    refine vq rfl qM ?_
    refine gN ?_
    refine hn0 _ (z + 1, acc ++ [(stepT op num ks l z inner k).1], (stepT op num ks l z inner k).2) ⟨by show z + 1 ≤ ks.length; omega, by show (acc ++ [_]).length = z + 1; rw [List.length_append, List.length_singleton]; omega, hL.step hz3 z k, by show (acc ++ [_]) ++ _ = _; rw [List.append_assoc, ← hz4, puts_drop hk]; rfl, by show endK op num ks l (z + 1) _ _ = _; rw [← hz5, endK_drop hk]⟩ (by show ks.length - (z + 1) < ks.length - z; omega) le_of
  have hge : z = ks.length := by
    have : ¬ (z : Int) < (ks.map Tr.d).length := by simpa using hb0
    rw [List.length_map] at this
    omega
  refine G_exit (thn_exit ?_)
  refine he0 _ _ ?_
  refine blk_exit (tN (gS (gR ?_)))
  subst hge
  rw [List.drop_length, Tr.puts, List.append_nil] at hz4
  rw [List.drop_length, endK] at hz5
  refine vq rfl qM ?_
  refine vq rfl qA ?_
  refine gN (tN (gT ?_))
  refine finkm [[.d (.int .i64 op), .d (.str name), .d (.int .i64 num), .d (.sl (ks.map Tr.d))], [.d (knD inner)], [.d (knD l)]] (by simp) ?_
  exact ⟨by rw [hz4], by rw [hz5]⟩
theorem l196 (op num : Int) (name : ByteArray) (ks : List Tr) : Pf Tryz.prog 196 [.agg [.int .i64 op, .str name, .int .i64 num, .sl (ks.map Tr.d)]] (.d (.bool (loopsB op num ks.length))) := Tr.d_mk op name num ks ▸ c196 (.mk op name num ks)
theorem hideV_t {k : Tr} {l : KL} (h : (k.op == 50) = true) : hideV k l = hideK k.nm l := if_pos h
theorem hideV_f {k : Tr} {l : KL} (h : (k.op == 50) = false) : hideV k l = l := if_neg (by rw [h]; decide)
set_option maxHeartbeats 8000000 in
theorem c195x (op num : Int) (name : ByteArray) (ks : List Tr) (l inner : KL) (z : Nat) (kop knu : Int) (knm : ByteArray) (kks : List Tr) (hlim : ks.length ≤ 1000000) (hz : z < ks.length) (hkl : (Tr.mk kop knm knu kks).Lens) (hL : KLens l) (hi : KLens inner)
    (ih : ∀ K : KL, KLens K → Pf Tryz.prog 110 [(Tr.mk kop knm knu kks).d, knD K] (.d ((Tr.mk kop knm knu kks).put K).d)) : Gm Tryz.prog 195 [.d (.int .i64 (z : Nat)), .d (.agg [.int .i64 kop, .str knm, .int .i64 knu, .sl (kks.map Tr.d)]), .ref 0 0, .ref 1 0, .ref 2 0] [[.d (.int .i64 op), .d (.str name), .d (.int .i64 num), .d (.sl (ks.map Tr.d))], [.d (knD inner)], [.d (knD l)]] (.d (stepT op num ks l z inner (Tr.mk kop knm knu kks)).1.d) [[.d (.int .i64 op), .d (.str name), .d (.int .i64 num), .d (.sl (ks.map Tr.d))], [.d (knD (stepT op num ks l z inner (Tr.mk kop knm knu kks)).2)], [.d (knD l)]] := by
  refine gm_body (rvs := [.cell 7 27]) 3 [(0, .d (.int .i64 (z : Nat))), (1, .d (.agg [.int .i64 kop, .str knm, .int .i64 knu, .sl (kks.map Tr.d)])), (2, .ref 0 0), (3, .ref 1 0), (4, .ref 2 0)] Tryz.func195 Tryz.ntmps195 Tryz.results195 (fun S0 O0 w0 m0 hm0 => ?_)
  refine gS (gR ?_)
  refine sv rfl y_box ?_
  refine gF 3 [[.d (.int .i64 op), .d (.str name), .d (.int .i64 num), .d (.sl (ks.map Tr.d))], [.d (knD inner)], [.d (knD l)]] (.agg [.int .i64 kop, .str knm, .int .i64 knu, .sl (kks.map Tr.d)]) rfl ?_
  refine sv rfl (y_alloc zr27) ?_
  refine gN (tN (gS (gR ?_)))
  refine vq rfl (qG (by exact sz27) u27 rfl) ?_
  refine sv rfl (y_alloc zr27) ?_
  refine sa rfl (dS sz27) ?_
  refine gN (tN ?_)
  refine G_seq_cut (α := Tr × KL) (fun y => ⟨[(6, .d (.ptr (.agg [.int .i64 kop, .str knm, .int .i64 knu, .sl (kks.map Tr.d)]))), (3, .ref 1 0), (7, .ref 3 0), (8, .ref 4 0)], [[.d (.int .i64 op), .d (.str name), .d (.int .i64 num), .d (.sl (ks.map Tr.d))], [.d (knD y.2)], [.d (knD l)], [.d (.int .i64 0), .d (.str ⟨#[]⟩), .d (.int .i64 0), .nils], [.d (.int .i64 y.1.op), .d (.str y.1.nm), .d (.int .i64 y.1.nu), .d (.sl (y.1.kids.map Tr.d))]]⟩) (fun y => (y.1, hideV (Tr.mk kop knm knu kks) y.2) = stepT op num ks l z inner (Tr.mk kop knm knu kks)) (fun Q' hn he hr => ?_) (fun y hy => ?_)
  ·
    refine G_block (gS (gS (gR ?_)))
    refine sv rfl (y_fieldAt 0 u27 rfl sz3) ?_
    refine sv rfl (y_load_leaf u3) ?_
    refine vq rfl q_eql ?_
    refine vq rfl qM ?_
    refine sg rfl (fun hg => qM) ?_
    refine sg rfl (fun hg => sP 18 rfl hg q_eql) ?_
    refine vq rfl q_and ?_
    refine vq rfl qM ?_
    refine sg rfl (fun hg => qF u27 rfl sz3) ?_
    refine sg rfl (fun hg => sP 22 rfl hg (qL u3)) ?_
    refine sg rfl (fun hg => sP 23 rfl hg q_eql) ?_
    refine vq rfl q_and ?_
    refine vq rfl qA ?_
    refine gN (tN ?_)
    refine gC (fun hb0 => ?_) (fun hb0 => ?_)
    ·
      have hkp : keepsB op num ks.length z (Tr.mk kop knm knu kks) = true := by
        unfold keepsB
        rw [show (((op == 51 && (z : Int) == 0) && ((Tr.mk kop knm knu kks)).op == 4)) = ((op == 51 && (z : Int) == 0) && kop == 4) from rfl]
        rw [show ((op == 51 && (z : Int) == 0) && kop == 4) = true from hb0]; rfl
      refine gK (tN ?_)
      refine gC (fun hb1 => ?_) (fun hb1 => ?_)
      ·
        refine gR ?_
        refine vq rfl (qG (by exact sz27) u27 rfl) ?_
        refine gL (xs := [.tmp 34]) rfl ((Tr.d_mk kop knm knu kks ▸ c100 (Tr.mk kop knm knu kks) hkl)) ?_
        refine sa rfl (dS sz27) ?_
        refine gN (bN ?_)
        refine hn _ ((Tr.mk kop knm knu kks), inner) (by rw [stepT, if_pos hkp]) le_of
      exact absurd (hb0.symm.trans hb1) (by decide)
    refine gR ?_
    refine sv rfl (y_load_agg sz27 u27 rfl) ?_
    refine gL (xs := [.tmp 26]) rfl (l196 op num name ks) ?_
    refine vq rfl qM ?_
    refine sg rfl (fun hg => qM) ?_
    refine sg rfl (fun hg => q_fieldAddr u27 rfl sz3) ?_
    refine sg rfl (fun hg => sP 30 rfl hg (qO u3)) ?_
    refine sg rfl (fun hg => sP 31 rfl hg (sP 29 rfl hg q_lss)) ?_
    refine vq rfl q_and ?_
    refine vq rfl qA ?_
    refine gN (tN ?_)
    refine gC (fun hb2 => ?_) (fun hb2 => ?_)
    ·
      have hkp : keepsB op num ks.length z (Tr.mk kop knm knu kks) = true := by
        unfold keepsB
        rw [show (((op == 51 && (z : Int) == 0) && ((Tr.mk kop knm knu kks)).op == 4)) = ((op == 51 && (z : Int) == 0) && kop == 4) from rfl]
        rw [show (loopsB op num ks.length && decide ((z : Int) < num)) = true from hb2, Bool.or_true]
      refine gR ?_
      refine vq rfl (qG (by exact sz27) u27 rfl) ?_
      refine gL (xs := [.tmp 34]) rfl ((Tr.d_mk kop knm knu kks ▸ c100 (Tr.mk kop knm knu kks) hkl)) ?_
      refine sa rfl (dS sz27) ?_
      refine gN (bN ?_)
      refine hn _ ((Tr.mk kop knm knu kks), inner) (by rw [stepT, if_pos hkp]) le_of
    have hkn : keepsB op num ks.length z (Tr.mk kop knm knu kks) = false := by
      unfold keepsB
      rw [show (((op == 51 && (z : Int) == 0) && ((Tr.mk kop knm knu kks)).op == 4)) = ((op == 51 && (z : Int) == 0) && kop == 4) from rfl, show ((op == 51 && (z : Int) == 0) && kop == 4) = false from hb0, show (loopsB op num ks.length && decide ((z : Int) < num)) = false from hb2]; rfl
    refine gS (gR ?_)
    refine sv rfl (y_load_agg sz27 u27 rfl) ?_
    refine gL (xs := [.tmp 37]) rfl (l196 op num name ks) ?_
    refine vq rfl qM ?_
    refine sg rfl (fun hg => qM) ?_
    refine sg rfl (fun hg => q_fieldAddr u27 rfl sz3) ?_
    refine sg rfl (fun hg => sP 41 rfl hg (qO u3)) ?_
    refine sg rfl (fun hg => sP 42 rfl hg (q_add (hw := rfl))) ?_
    refine sg rfl (fun hg => sP 43 rfl hg (sP 40 rfl hg q_eql)) ?_
    refine vq rfl q_and ?_
    refine vq rfl qA ?_
    refine gN (tN ?_)
    refine gC (fun hb3 => ?_) (fun hb3 => ?_)
    ·
      have hbd : (loopsB op num ks.length && (z : Int) == W (num + 1)) = true := hb3
      have hlp := (Bool.and_eq_true_iff.1 hbd).1
      refine gS ?_
      refine g_cg [46, 47, 48, 49, 50] (fun bq => [[.d (.int .i64 op), .d (.str name), .d (.int .i64 num), .d (.sl (ks.map Tr.d))], [.d (knD inner)], [.d (knD l)], [.d (.int .i64 0), .d (.str ⟨#[]⟩), .d (.int .i64 0), .nils], cond (bq 5) [.d (.int .i64 ((Tr.mk kop knm knu kks).put (bindK (ks.take num.toNat) inner)).op), .d (.str ((Tr.mk kop knm knu kks).put (bindK (ks.take num.toNat) inner)).nm), .d (.int .i64 ((Tr.mk kop knm knu kks).put (bindK (ks.take num.toNat) inner)).nu), .d (.sl (((Tr.mk kop knm knu kks).put (bindK (ks.take num.toNat) inner)).kids.map Tr.d))] [.d (.int .i64 kop), .d (.str knm), .d (.int .i64 knu), .d (.sl (kks.map Tr.d))]]) rfl ?_
      refine cP [] ?_
      refine cS 1 (fun bq rest hc1 hc2 hc3 => vq rfl (qG (by exact sz27) u27 rfl) (gN ⟨rfl, rfl⟩)) ?_
      refine cP [] ?_
      refine cS 2 (fun bq rest hc1 hc2 hc3 => by
          have hs := hc3.no 5 1 hc1
          have e2 : upd bq 1 5 = false := hs
          simp only [hs, cond_false]
          refine sv rfl (y_load_leaf u141) ?_
          exact (gN ⟨rfl, by rw [e2]; rfl⟩)) ?_
      refine cP [] ?_
      refine cS 3 (fun bq rest hc1 hc2 hc3 => by
          have hs := hc3.no 5 2 hc1
          have e2 : upd bq 2 5 = false := hs
          simp only [hs, cond_false]
          refine sv rfl (y_load_agg sz27 u27 rfl) ?_
          exact (gN ⟨rfl, by rw [e2]; rfl⟩)) ?_
      refine cP [1, 2] ?_
      refine cS 4 (fun bq rest hc1 hc2 hc3 => gL (xs := [.tmp 47, .tmp 48]) rfl ((Tr.d_mk op name num ks ▸ c197 (.mk op name num ks) inner (loops_num hlp).1 (by have := (loops_num hlp).2; show num ≤ ks.length; omega) hlim)) (gN ⟨rfl, rfl⟩)) ?_
      refine cP [0, 3, 3] ?_
      refine cS 5 (fun bq rest hc1 hc2 hc3 => gL (xs := [.tmp 46, .tmp 49]) rfl ((((Tr.mk kop knm knu kks).put (bindK (ks.take num.toNat) inner)).d_eta ▸ Tr.d_mk kop knm knu kks ▸ ih (bindK (ks.take num.toNat) inner) (KLens.bind _ hi))) (gN ⟨rfl, rfl⟩)) ?_
      refine cP [4, 4, 0, 1, 2, 3, 4] ?_
      refine cg_act 6 (fun bq rest hc1 hc2 hc3 => by
          have e2 : upd bq 5 5 = true := rfl
          simp only [hc1, cond_false]
          refine sa rfl (dS sz27) ?_
          exact (gN ⟨rfl, by rw [e2]; rfl⟩)) ?_
      refine cg_done (mem'' := [[.d (.int .i64 op), .d (.str name), .d (.int .i64 num), .d (.sl (ks.map Tr.d))], [.d (knD inner)], [.d (knD l)], [.d (.int .i64 0), .d (.str ⟨#[]⟩), .d (.int .i64 0), .nils], [.d (.int .i64 ((Tr.mk kop knm knu kks).put (bindK (ks.take num.toNat) inner)).op), .d (.str ((Tr.mk kop knm knu kks).put (bindK (ks.take num.toNat) inner)).nm), .d (.int .i64 ((Tr.mk kop knm knu kks).put (bindK (ks.take num.toNat) inner)).nu), .d (.sl (((Tr.mk kop knm knu kks).put (bindK (ks.take num.toNat) inner)).kids.map Tr.d))]]) ?_
      refine tN (gR ?_)
      refine sv rfl (y_load_leaf u141) ?_
      refine sa rfl (dS (hps := knD_cof l) sz141) ?_
      refine gN (bN ?_)
      refine hn _ ((Tr.mk kop knm knu kks).put (bindK (ks.take num.toNat) inner), l) (by rw [stepT, if_neg (by rw [hkn]; decide), if_pos hbd]) le_of
    have hbd : (loopsB op num ks.length && (z : Int) == W (num + 1)) = false := hb3
    refine gR ?_
    refine vq rfl (qG (by exact sz27) u27 rfl) ?_
    refine sv rfl (y_load_leaf u141) ?_
    refine gL (xs := [.tmp 10, .tmp 11]) rfl ((((Tr.mk kop knm knu kks).put inner).d_eta ▸ Tr.d_mk kop knm knu kks ▸ ih inner hi)) ?_
    refine sa rfl (dS sz27) ?_
    refine gN (bN ?_)
    refine hn _ ((Tr.mk kop knm knu kks).put inner, inner) (by rw [stepT, if_neg (by rw [hkn]; decide), if_neg (by rw [hbd]; decide)]) le_of
  obtain ⟨y, yk⟩ := y
  replace hy : (y, hideV (Tr.mk kop knm knu kks) yk) = stepT op num ks l z inner (Tr.mk kop knm knu kks) := hy
  refine gS (gS (gR ?_))
  refine vq rfl (qF u27 rfl sz3) ?_
  refine vq rfl (qL u3) ?_
  refine vq rfl q_eql ?_
  refine gN (tN ?_)
  refine gC (fun hb4 => ?_) (fun hb4 => ?_)
  ·
    have e1 : (stepT op num ks l z inner (Tr.mk kop knm knu kks)).1 = y := by rw [← hy]
    have e2 : (stepT op num ks l z inner (Tr.mk kop knm knu kks)).2 = hideK knm yk := by rw [← hy]; exact hideV_t hb4
    refine gR ?_
    refine sv rfl (y_load_leaf u141) ?_
    refine vq rfl (qF u27 rfl sz9) ?_
    refine vq rfl (qL u9) ?_
    refine gL (xs := [.tmp 55, .tmp 57]) rfl (c132 yk knm) ?_
    refine sa rfl (dS sz141) ?_
    refine gN (tN (gS (gR ?_)))
    refine sv rfl (y_load_agg sz27 u27 rfl) ?_
    refine sa rfl (dS sz27) ?_
    refine gN (tN (gT ?_))
    refine fincm [[.d (.int .i64 op), .d (.str name), .d (.int .i64 num), .d (.sl (ks.map Tr.d))], [.d (knD (hideK knm yk))], [.d (knD l)]] sz27 u27 (by simp) ?_
    exact ⟨by rw [e1, y.d_eta], by rw [e2]⟩
  have e1 : (stepT op num ks l z inner (Tr.mk kop knm knu kks)).1 = y := by rw [← hy]
  have e2 : (stepT op num ks l z inner (Tr.mk kop knm knu kks)).2 = yk := by rw [← hy]; exact hideV_f hb4
  refine gK (tN (gS (gR ?_)))
  refine sv rfl (y_load_agg sz27 u27 rfl) ?_
  refine sa rfl (dS sz27) ?_
  refine gN (tN (gT ?_))
  refine fincm [[.d (.int .i64 op), .d (.str name), .d (.int .i64 num), .d (.sl (ks.map Tr.d))], [.d (knD yk)], [.d (knD l)]] sz27 u27 (by simp) ?_
  exact ⟨by rw [e1, y.d_eta], by rw [e2]⟩
theorem c195 (op num : Int) (name : ByteArray) (ks : List Tr) (l : KL) (hlim : ks.length ≤ 1000000) (hL : KLens l) (hks : ∀ k ∈ ks, k.Lens) (ih : ∀ k ∈ ks, ∀ K : KL, KLens K → Pf Tryz.prog 110 [k.d, knD K] (.d (k.put K).d)) :
    ∀ (z : Nat) (k : Tr) (inner : KL), ks[z]? = some k → KLens inner → Gm Tryz.prog 195 [.d (.int .i64 (z : Nat)), .d k.d, .ref 0 0, .ref 1 0, .ref 2 0] [[.d (.int .i64 op), .d (.str name), .d (.int .i64 num), .d (.sl (ks.map Tr.d))], [.d (knD inner)], [.d (knD l)]] (.d (stepT op num ks l z inner k).1.d) [[.d (.int .i64 op), .d (.str name), .d (.int .i64 num), .d (.sl (ks.map Tr.d))], [.d (knD (stepT op num ks l z inner k).2)], [.d (knD l)]] := by
  intro z k inner hk hi
  have hmem := List.mem_of_getElem? hk
  obtain ⟨kop, knm, knu, kks⟩ := k
  rw [Tr.d_mk]
  exact c195x op num name ks l inner z kop knu knm kks hlim (List.getElem?_eq_some_iff.1 hk).1 (hks _ hmem) hL hi (ih _ hmem)
theorem Tr.Lens.mk' {op num : Int} {nm : ByteArray} {ks : List Tr} (h : (Tr.mk op nm num ks).Lens) : ks.length ≤ 1000000 ∧ ∀ k ∈ ks, k.Lens := by cases h; exact ⟨by assumption, by assumption⟩
set_option maxHeartbeats 8000000 in
theorem c110n : ∀ (n : Nat) (t : Tr), t.size ≤ n → t.Lens → ∀ l : KL, KLens l → Pf Tryz.prog 110 [t.d, knD l] (.d (t.put l).d) := by
  intro n
  induction n with
  | zero => intro t h; exact absurd t.size_pos (by omega)
  | succ n ih =>
    intro t hsz hlen l hL
    obtain ⟨op, name, num, ks⟩ := t
    obtain ⟨hlim, hks⟩ := hlen.mk'
    have hI : ∀ k ∈ ks, ∀ K : KL, KLens K → Pf Tryz.prog 110 [k.d, knD K] (.d (k.put K).d) := fun k hk => ih k (by have := Tr.size_mem hk; rw [Tr.size] at hsz; omega) (hks k hk)
    rw [Tr.d_mk]
    refine pf_body (rvs := [.cell 4 27]) [(0, .d (.agg [.int .i64 op, .str name, .int .i64 num, .sl (ks.map Tr.d)])), (1, .d (knD l))] Tryz.func110 Tryz.ntmps110 Tryz.results110 (fun S0 O0 w0 m0 hm0 => ?_)
    refine gS (gR ?_)
    refine sv rfl y_box ?_
    refine sv rfl (y_box (hcs := by rw [knD_cof])) ?_
    refine sv rfl (y_alloc zr27) ?_
    refine gN (tN (gS (gS (gR ?_))))
    refine sv rfl (y_fieldAt 0 u27 rfl sz3) ?_
    refine sv rfl (y_load_leaf u3) ?_
    refine gN (tN (G_block (gS (gR ?_))))
    refine vq rfl q_eql ?_
    refine vq rfl qA ?_
    refine gN (tN ?_)
    refine gC (fun hb0 => ?_) (fun hb0 => ?_)
    ·
      refine gS (gS (gR ?_))
      refine sv rfl (y_load_leaf u141) ?_
      refine sv rfl (y_fieldAt 1 u27 rfl sz9) ?_
      refine sv rfl (y_load_leaf u9) ?_
      refine gL (xs := [.tmp 11, .tmp 13]) rfl (c181 l name) ?_
      refine vq rfl qA ?_
      refine gN (tN (gS ?_))
      rcases hfv : findK name l with _ | v
      ·
        refine gP [0, 1, 2, 3, 4, 5, 6, 8] ?_
        refine gR ?_
        rw [valD]
        refine vq rfl qM ?_
        refine vq rfl ((q_ptrneq u139)) ?_
        refine gN (tN ?_)
        refine gC (fun hb1 => ?_) (fun hb1 => ?_)
        ·
          exact absurd hb1 (by decide)
        refine gK (tN (gS (gR ?_)))
        refine sv rfl (y_load_agg sz27 u27 rfl) ?_
        refine gL (xs := [.tmp 21]) rfl ((Tr.d_mk op name num ks ▸ c100 (.mk op name num ks) hlen)) ?_
        refine sa rfl (dS sz27) ?_
        refine gN (tN (gT (bR (tR ?_))))
        refine findc sz27 u27 (by simp) ?_
        exact ⟨by rw [Tr.put, if_pos hb0, hfv, Tr.d_mk], rfl⟩
      refine gP [0, 1, 2, 3, 4, 5, 6, 8] ?_
      refine gR ?_
      rw [valD, v.d_eta]
      refine vq rfl qM ?_
      refine vq rfl ((q_ptrneq u139)) ?_
      refine gN (tN ?_)
      refine gC (fun hb2 => ?_) (fun hb2 => ?_)
      ·
        refine gS (gR ?_)
        refine vq rfl qM ?_
        refine vq rfl q_nilCheck ?_
        refine vq rfl (qG (by exact sz27) u27 rfl) ?_
        refine gL (xs := [.tmp 19]) rfl ((v.d_eta ▸ c100 v (findK_lens hL v hfv))) ?_
        refine sa rfl (dS sz27) ?_
        refine gN (tN (gT (tR (bR (tR ?_)))))
        refine findc sz27 u27 (by simp) ?_
        exact ⟨by rw [Tr.put, if_pos hb0, hfv, v.d_eta], rfl⟩
      exact absurd hb2 (by decide)
    refine gS (gR ?_)
    refine vq rfl q_eql ?_
    refine vq rfl qA ?_
    refine gN (tN ?_)
    refine gC (fun hb3 => ?_) (fun hb3 => ?_)
    ·
      refine gS (gR ?_)
      refine sv rfl (y_load_agg sz27 u27 rfl) ?_
      refine gL (xs := [.tmp 25]) rfl ((Tr.d_mk op name num ks ▸ c100 (.mk op name num ks) hlen)) ?_
      refine sa rfl (dS sz27) ?_
      refine gN (tN (gT (bR (tR ?_))))
      refine findc sz27 u27 (by simp) ?_
      exact ⟨by rw [Tr.put, if_neg (by rw [hb0]; decide), if_pos hb3, Tr.d_mk], rfl⟩
    refine gK (bN (tN (gS (gR ?_))))
    refine sv rfl (y_load_leaf u141) ?_
    refine sv rfl (y_alloc zr141) ?_
    refine sa rfl (dS (hps := knD_cof l) sz141) ?_
    refine gN (tN (gS ?_))
    refine gP [0, 1, 2, 3, 4, 5, 6, 8] ?_
    refine gR ?_
    refine sv rfl (y_fieldAt 3 u27 rfl sz22) ?_
    refine sv rfl (y_load_leaf u22) ?_
    refine vq rfl (q_makeFunc (xs := []) (ys := [.tmp 2, .tmp 6, .tmp 3])) ?_
    refine g_callm [0, 3, 1] rfl (c101p op num name ks l hlim hL (c195 op num name ks l hlim hL hks hI)) ?_
    refine sv rfl (y_fieldAt 3 u27 rfl sz22) ?_
    refine sa rfl (dS sz22) ?_
    refine gN (tN (gS (gR ?_)))
    refine sv rfl (y_load_agg sz27 u27 rfl) ?_
    refine sa rfl (dS sz27) ?_
    refine gN (tN (gT ?_))
    refine findc sz27 u27 (by simp) ?_
    exact ⟨by rw [Tr.put, if_neg (by rw [hb0]; decide), if_neg (by rw [hb3]; decide), Tr.d_mk], rfl⟩
theorem c110 (t : Tr) (h : t.Lens) (l : KL) (hL : KLens l) : Pf Tryz.prog 110 [t.d, knD l] (.d (t.put l).d) := c110n _ t (Nat.le_refl _) h l hL
theorem kl_lens {l : List (ByteArray × Tr)} (h : ∀ c ∈ l, c.2.Lens) : KLens (kl l) := by
  intro x hx t ht
  unfold kl at hx
  rw [List.mem_reverse, List.mem_map] at hx
  obtain ⟨c, hc, rfl⟩ := hx
  injection ht with ht
  subst ht
  exact h c hc
theorem c36 (t : Tr) (hlen : t.Lens) (l : List (ByteArray × Tr)) (hl : COk l) : Pf Tryz.prog 36 [t.d, .sl (l.map cD)] (.d (t.put (kl l)).d) := by
  obtain ⟨op, name, num, ks⟩ := t
  rw [Tr.d_mk]
  try simp only [Tr.op_mk, Tr.nm_mk, Tr.nu_mk, Tr.kids_mk]
  refine pf_body (rvs := [.cell 4 27]) [(0, .d (.agg [.int .i64 op, .str name, .int .i64 num, .sl (ks.map Tr.d)])), (1, .d (.sl (l.map cD)))] Tryz.func36 Tryz.ntmps36 Tryz.results36 (fun S0 O0 w0 m0 hm0 => ?_)
  refine gS (gR ?_)
  refine sv rfl y_box ?_
  refine gF 0 [] (.agg [.int .i64 op, .str name, .int .i64 num, .sl (ks.map Tr.d)]) rfl ?_
  refine sv rfl (y_alloc zr27) ?_
  refine gN (tN (gS ?_))
  refine g_cg [5, 6, 7, 8] (fun bq => [cond (bq 4) [.d (.int .i64 ((Tr.mk op name num ks).put (kl l)).op), .d (.str ((Tr.mk op name num ks).put (kl l)).nm), .d (.int .i64 ((Tr.mk op name num ks).put (kl l)).nu), .d (.sl (((Tr.mk op name num ks).put (kl l)).kids.map Tr.d))] [.d (.int .i64 0), .d (.str ⟨#[]⟩), .d (.int .i64 0), .nils]]) rfl ?_
  refine cP [] ?_
  refine cS 1 (fun bq rest hc1 hc2 hc3 => vq rfl (qG (by exact sz27) u27 rfl) (gN ⟨rfl, rfl⟩)) ?_
  refine cP [] ?_
  refine cS 2 (fun bq rest hc1 hc2 hc3 => vq rfl qM (gN ⟨rfl, rfl⟩)) ?_
  refine cP [1] ?_
  refine cS 3 (fun bq rest hc1 hc2 hc3 => gL (xs := [.tmp 6]) rfl (c105 l hl) (gN ⟨rfl, rfl⟩)) ?_
  refine cP [0, 2, 2] ?_
  refine cS 4 (fun bq rest hc1 hc2 hc3 => gL (xs := [.tmp 5, .tmp 7]) rfl ((((Tr.mk op name num ks).put (kl l)).d_eta ▸ Tr.d_mk op name num ks ▸ c110 (.mk op name num ks) hlen (kl l) (kl_lens fun c hc => Tr.lens_of _ _ (Nat.le_refl _) (hl.2 c hc).2))) (gN ⟨rfl, rfl⟩)) ?_
  refine cP [3, 3, 0, 1, 2, 3] ?_
  refine cg_act 5 (fun bq rest hc1 hc2 hc3 => by
      have e2 : upd bq 4 4 = true := rfl
      simp only [hc1, cond_false]
      refine sa rfl (dS sz27) ?_
      exact (gN ⟨rfl, by rw [e2]; rfl⟩)) ?_
  refine cg_done (mem'' := [[.d (.int .i64 ((Tr.mk op name num ks).put (kl l)).op), .d (.str ((Tr.mk op name num ks).put (kl l)).nm), .d (.int .i64 ((Tr.mk op name num ks).put (kl l)).nu), .d (.sl (((Tr.mk op name num ks).put (kl l)).kids.map Tr.d))]]) ?_
  refine tN (gT ?_)
  refine findc sz27 u27 (by simp) ?_
  exact ⟨by rw [((Tr.mk op name num ks).put (kl l)).d_eta], rfl⟩
end Go.Proofs.YtklkbfpjimeaoaaGreat
namespace Go.Proofs.YtklkbfpjimeaoaaGreat
open Go Go.Proofs.YtklkbfpjimeaoaaGreat.E
theorem all_zip {α : Type} (q : α → Bool) : ∀ (xs : List α), (xs.zipIdx.all fun x => q x.1) = xs.all q := by
  intro xs
  rw [Bool.eq_iff_iff, List.all_eq_true, List.all_eq_true]
  constructor
  · intro h x hx
    obtain ⟨i, hi⟩ := List.getElem?_of_mem hx
    exact h (x, i) (List.mem_zipIdx_iff_getElem?.2 hi)
  · rintro h ⟨x, i⟩ hx
    exact h x (List.mem_of_getElem? (List.mem_zipIdx_iff_getElem?.1 hx))
def allE (ks : List Tr) : Bool := ks.all fun k => isExprB k.op
theorem kidsB_e {s : ByteArray} (hs : ∀ i, i < s.size → s[i]! = 101) (ks : List Tr) : kidsB ks s = (decide (ks.length = s.size) && allE ks) := by
  unfold kidsB
  by_cases h : ks.length = s.size
  · rw [decide_eq_true h, Bool.true_and, Bool.true_and, allE, ← all_zip (fun k : Tr => isExprB k.op)]
    rw [Bool.eq_iff_iff, List.all_eq_true, List.all_eq_true]
    have hk : ∀ x ∈ ks.zipIdx, kindOk ((s[x.2]!).toNat : Nat) x.1.op = isExprB x.1.op := by
      rintro ⟨k, i⟩ hx
      have hi := (List.getElem?_eq_some_iff.1 (List.mem_zipIdx_iff_getElem?.1 hx)).1
      show kindOk ((s[i]!).toNat : Nat) k.op = _
      rw [hs i (by omega)]
      rfl
    constructor
    · intro h x hx; rw [← hk x hx]; exact h x hx
    · intro h x hx; rw [hk x hx]; exact h x hx
  · rw [decide_eq_false h, Bool.false_and, Bool.false_and]
theorem e1s : ∀ i, i < e1.size → e1[i]! = 101 := by decide
theorem e2s : ∀ i, i < ee.size → ee[i]! = 101 := by decide
theorem e3s : ∀ i, i < eee.size → eee[i]! = 101 := by decide
theorem exs (n : Nat) : ∀ i, i < (eee.extract 0 n).size → (eee.extract 0 n)[i]! = 101 := by
  intro i hi
  have h3 : eee.size = 3 := rfl
  rw [ByteArray.size_extract] at hi
  have hlt : i < 3 := by omega
  have hn : i < n := by omega
  have hi' : i < (eee.extract 0 n).size := by rw [ByteArray.size_extract]; exact hi
  rw [getElem!_pos (eee.extract 0 n) i hi', ByteArray.getElem_extract]
  have h := e3s i (by rw [h3]; exact hlt)
  rw [getElem!_pos eee i (by rw [h3]; exact hlt)] at h
  simpa using h
def Kin (f : Tr → Tr) (ks : List Tr) : Prop := ∀ k ∈ ks, isExprB (f k).op = isExprB k.op ∧ ((f k).op == 30) = (k.op == 30)
theorem Kin.allE {f : Tr → Tr} {ks : List Tr} (h : Kin f ks) : allE (ks.map f) = allE ks := by
  unfold Go.Proofs.YtklkbfpjimeaoaaGreat.allE
  rw [Bool.eq_iff_iff, List.all_map, List.all_eq_true, List.all_eq_true]
  constructor
  · intro h1 k hk; rw [← (h k hk).1]; exact h1 k hk
  · intro h1 k hk; show isExprB (f k).op = true; rw [(h k hk).1]; exact h1 k hk
theorem Kin.kidsB {f : Tr → Tr} {ks : List Tr} (h : Kin f ks) {s : ByteArray} (hs : ∀ i, i < s.size → s[i]! = 101) : kidsB (ks.map f) s = kidsB ks s := by
  rw [kidsB_e hs, kidsB_e hs, h.allE, List.length_map]
theorem Kin.every {f : Tr → Tr} {ks : List Tr} (h : Kin f ks) : everyB (fun op => isExprB op || op == 30) (ks.map f) = everyB (fun op => isExprB op || op == 30) ks := by
  unfold everyB
  rw [List.any_map]
  congr 1
  rw [Bool.eq_iff_iff, List.any_eq_true, List.any_eq_true]
  have he : ∀ k ∈ ks, ((fun k : Tr => !(isExprB k.op || k.op == 30)) ∘ f) k = !(isExprB k.op || k.op == 30) := fun k hk => by
    show (!(isExprB (f k).op || (f k).op == 30)) = _
    rw [(h k hk).1, (h k hk).2]
  constructor
  · rintro ⟨k, hk, h1⟩; exact ⟨k, hk, by rw [← he k hk]; exact h1⟩
  · rintro ⟨k, hk, h1⟩; exact ⟨k, hk, by rw [he k hk]; exact h1⟩
theorem Kin.forms {f : Tr → Tr} {ks : List Tr} (h : Kin f ks) {op num : Int} {nm : ByteArray} {ts : List ByteArray} (hs : ∀ s ∈ ts, ∀ i, i < s.size → s[i]! = 101) : formsB ts (.mk op nm num (ks.map f)) = formsB ts (.mk op nm num ks) := by
  unfold formsB
  rw [Bool.eq_iff_iff, List.any_eq_true, List.any_eq_true]
  constructor
  · rintro ⟨s, h1, h2⟩; exact ⟨s, h1, by rw [Tr.kids_mk] at h2 ⊢; rw [← h.kidsB (hs s h1)]; exact h2⟩
  · rintro ⟨s, h1, h2⟩; exact ⟨s, h1, by rw [Tr.kids_mk] at h2 ⊢; rw [h.kidsB (hs s h1)]; exact h2⟩
theorem Kin.tab {f : Tr → Tr} {ks : List Tr} (h : Kin f ks) {op num : Int} {nm : ByteArray} : ∀ x ∈ shapeTab, isExprB x.1 = true → x.2.ok (.mk op nm num (ks.map f)) = x.2.ok (.mk op nm num ks) := by
  intro x hx he
  simp only [shapeTab, List.mem_cons, List.not_mem_nil, or_false] at hx
  rcases hx with rfl | rfl | rfl | rfl | rfl | rfl | rfl | rfl | rfl | rfl | rfl | rfl | rfl | rfl | rfl | rfl | rfl | rfl | rfl | rfl | rfl | rfl | rfl | rfl | rfl | rfl | rfl | rfl | rfl | rfl | rfl | rfl | rfl <;> first | exact absurd he (by decide) | exact h.forms (by decide) | (show rule154 _ = rule154 _; unfold rule154; rw [Tr.kids_mk, Tr.kids_mk, List.length_map]; rfl)
theorem shGet_tab {op : Int} {s : Sh} (h : shGet op = some s) : ∃ x ∈ shapeTab, x.1 = op ∧ x.2 = s := by
  unfold shGet at h
  cases hf : shapeTab.find? (fun x => decide (x.1 = op)) with
  | none => rw [hf] at h; cases h
  | some x =>
    rw [hf] at h
    injection h with h
    exact ⟨x, List.mem_of_find?_eq_some hf, by simpa using List.find?_some hf, h⟩
theorem ne_of_expr {op k : Int} (ho : isExprB op = true) (hk : isExprB k = false) : (op == k) = false := by
  rw [beq_eq_false_iff_ne]
  rintro rfl
  rw [ho] at hk
  cases hk
theorem Kin.right {f : Tr → Tr} {ks : List Tr} (h : Kin f ks) {op num : Int} {nm : ByteArray} (ho : isExprB op = true) : rightB (.mk op nm num (ks.map f)) = rightB (.mk op nm num ks) := by
  have h2 : otherB (.mk op nm num (ks.map f)) = otherB (.mk op nm num ks) := by
    rw [otherB, otherB, h.every, h.kidsB (exs _), h.kidsB e2s, h.kidsB e1s, List.length_map, ne_of_expr ho (show isExprB 30 = false from rfl), ne_of_expr ho (show isExprB 50 = false from rfl)]
    simp only [Bool.false_eq_true, if_false]
  rw [rightB, rightB, h2]
  cases hs : shGet op with
  | none => rfl
  | some s =>
    obtain ⟨x, hx, rfl, rfl⟩ := shGet_tab hs
    have ht := h.tab (op := x.1) (num := num) (nm := nm) x hx ho
    obtain ⟨xo, nms, nb, g, caps, ok⟩ := x
    dsimp only at ht ⊢
    rw [ht]
end Go.Proofs.YtklkbfpjimeaoaaGreat
