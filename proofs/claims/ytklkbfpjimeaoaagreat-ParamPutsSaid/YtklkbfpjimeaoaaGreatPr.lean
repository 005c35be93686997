/- Contracts of functions. Conditions: none. -/
import Derived.Test.YtklkbfpjimeaoaaGreatPq
namespace Go.Proofs.YtklkbfpjimeaoaaGreat
open Go Go.Proofs.YtklkbfpjimeaoaaGreat.E
def loopsB (op num : Int) (n : Nat) : Bool := ((((op == 54 || op == 55) || op == 56) && decide (num ≥ 0)) && decide (num ≤ 2)) && decide ((n : Int) ≥ W (num + 2))
def hideK (nm : ByteArray) (l : KL) : KL := (nm, none) :: l
/-- The constants without the names of a loop. -/
def bindK (ks : List Tr) (l : KL) : KL := ks.foldl (fun l k => hideK k.nm l) l
/-- The Kid is copied alone. -/
def keepsB (op num : Int) (n i : Nat) (k : Tr) : Bool := ((op == 51 && (i : Int) == 0) && k.op == 4) || (loopsB op num n && decide ((i : Int) < num))
mutual
def Tr.put : Tr → KL → Tr
  | .mk op nm num ks, l =>
    if (op == 4) = true then (match findK nm l with | some v => v | none => .mk op nm num ks)
    else if (op == 67) = true then .mk op nm num ks
    else .mk op nm num (Tr.puts op num ks l 0 l ks)
def Tr.puts (op num : Int) (all : List Tr) (l : KL) (i : Nat) (inner : KL) : List Tr → List Tr
  | [] => []
  | k :: r =>
    if keepsB op num all.length i k = true then k :: Tr.puts op num all l (i + 1) (if (k.op == 50) = true then hideK k.nm inner else inner) r
    else if (loopsB op num all.length && (i : Int) == W (num + 1)) = true then k.put (bindK (all.take num.toNat) inner) :: Tr.puts op num all l (i + 1) (if (k.op == 50) = true then hideK k.nm l else l) r
    else k.put inner :: Tr.puts op num all l (i + 1) (if (k.op == 50) = true then hideK k.nm inner else inner) r
end
theorem loops_num {op num : Int} {n : Nat} (h : loopsB op num n = true) : 0 ≤ num ∧ num ≤ 2 ∧ num + 2 ≤ n := by
  unfold loopsB at h
  simp only [Bool.and_eq_true, decide_eq_true_eq] at h
  obtain ⟨⟨⟨_, h1⟩, h2⟩, h3⟩ := h
  unfold W at h3
  rw [wrap_i64 (by omega) (by omega)] at h3
  omega
def hideV (k : Tr) (l : KL) : KL := if (k.op == 50) = true then hideK k.nm l else l
/-- One Kid of a tree in which constants are put: what becomes of it, and the constants behind it. -/
def stepT (op num : Int) (all : List Tr) (l : KL) (i : Nat) (inner : KL) (k : Tr) : Tr × KL :=
  if keepsB op num all.length i k = true then (k, hideV k inner)
  else if (loopsB op num all.length && (i : Int) == W (num + 1)) = true then (k.put (bindK (all.take num.toNat) inner), hideV k l)
  else (k.put inner, hideV k inner)
def endK (op num : Int) (all : List Tr) (l : KL) : Nat → KL → List Tr → KL
  | _, inner, [] => inner
  | i, inner, k :: r => endK op num all l (i + 1) (stepT op num all l i inner k).2 r
theorem puts_cons (op num : Int) (all : List Tr) (l : KL) (i : Nat) (inner : KL) (k : Tr) (r : List Tr) : Tr.puts op num all l i inner (k :: r) = (stepT op num all l i inner k).1 :: Tr.puts op num all l (i + 1) (stepT op num all l i inner k).2 r := by
  rw [Tr.puts, stepT]
  split
  · rfl
  · split <;> rfl
theorem puts_drop {op num : Int} {all ks : List Tr} {l : KL} {z : Nat} {k : Tr} (h : ks[z]? = some k) (inner : KL) : Tr.puts op num all l z inner (ks.drop z) = (stepT op num all l z inner k).1 :: Tr.puts op num all l (z + 1) (stepT op num all l z inner k).2 (ks.drop (z + 1)) := by
  obtain ⟨hlt, rfl⟩ := List.getElem?_eq_some_iff.1 h
  rw [List.drop_eq_getElem_cons hlt, puts_cons]
theorem endK_drop {op num : Int} {all ks : List Tr} {l : KL} {z : Nat} {k : Tr} (h : ks[z]? = some k) (inner : KL) : endK op num all l z inner (ks.drop z) = endK op num all l (z + 1) (stepT op num all l z inner k).2 (ks.drop (z + 1)) := by
  obtain ⟨hlt, rfl⟩ := List.getElem?_eq_some_iff.1 h
  rw [List.drop_eq_getElem_cons hlt, endK]
def KLens (l : KL) : Prop := ∀ x ∈ l, ∀ t, x.2 = some t → t.Lens
theorem KLens.hide {l : KL} (h : KLens l) (nm : ByteArray) : KLens (hideK nm l) := fun x hx t ht => by
  rcases List.mem_cons.1 hx with rfl | hx
  · cases ht
  · exact h x hx t ht
theorem KLens.hideV {l : KL} (h : KLens l) (k : Tr) : KLens (hideV k l) := by
  unfold Go.Proofs.YtklkbfpjimeaoaaGreat.hideV
  split
  · exact h.hide _
  · exact h
theorem KLens.bind : ∀ (ks : List Tr) {l : KL}, KLens l → KLens (bindK ks l)
  | [], l, h => h
  | k :: r, l, h => by
    show KLens (bindK r (hideK k.nm l))
    exact KLens.bind r (h.hide _)
theorem KLens.step {op num : Int} {all : List Tr} {l inner : KL} (hl : KLens l) (hi : KLens inner) (i : Nat) (k : Tr) : KLens (stepT op num all l i inner k).2 := by
  unfold stepT
  split
  · exact hi.hideV k
  · split
    · exact hl.hideV k
    · exact hi.hideV k
theorem findK_lens {nm : ByteArray} : ∀ {l : KL}, KLens l → ∀ v, findK nm l = some v → v.Lens
  | [], _, v, h => by cases h
  | x :: r, hl, v, h => by
    rw [findK] at h
    split at h
    · exact hl x (by simp) v h
    · exact findK_lens (fun y hy => hl y (by simp [hy])) v h
theorem bindK_step {ks : List Tr} {z : Nat} {k : Tr} (h : ks[z]? = some k) (l : KL) : bindK (ks.take (z + 1)) l = hideK k.nm (bindK (ks.take z) l) := by
  unfold bindK
  rw [List.take_add_one, h, List.foldl_append]; rfl
theorem c196 (t : Tr) : Pf Tryz.prog 196 [t.d] (.d (.bool (loopsB t.op t.nu t.kids.length))) := by
  obtain ⟨op, name, num, ks⟩ := t
  rw [Tr.d_mk]
  try simp only [Tr.op_mk, Tr.nm_mk, Tr.nu_mk, Tr.kids_mk]
  refine pf_body (rvs := [.tmp 2]) [(0, .d (.agg [.int .i64 op, .str name, .int .i64 num, .sl (ks.map Tr.d)]))] Tryz.func196 Tryz.ntmps196 Tryz.results196 (fun S0 O0 w0 m0 hm0 => ?_)
  refine G_seq ?_
  refine g_region ?_
  refine sv rfl (y_box) ?_
  refine g_freeze 0 [] (.agg [.int .i64 op, .str name, .int .i64 num, .sl (ks.map Tr.d)]) rfl ?_
  refine sv rfl (y_assign) ?_
  refine GOps_nil ?_
  refine thn_normal ?_
  refine G_seq ?_
  refine g_region ?_
  first | refine sv rfl (y_fieldAt 0 Tryz.underlying27 rfl sz3) ?_ | refine sv rfl (y_fieldAddr Tryz.underlying27 rfl sz3) ?_ | refine sv rfl (y_fieldp_leaf Tryz.underlying27 rfl sz3) ?_
  first | refine sv rfl (y_load_leaf Tryz.underlying3) ?_ | refine sv rfl (y_loadp_leaf Tryz.underlying3) ?_
  refine sv rfl (y_eql) ?_
  refine sv rfl (y_move) ?_
  first | refine sg rfl (fun hg => q_fieldAddr Tryz.underlying27 rfl sz3) ?_ | refine sg rfl (fun hg => q_fieldp_leaf Tryz.underlying27 rfl sz3) ?_
  first | refine sg rfl (fun hg => strip 7 (by simp only [GS.set, GS.get, List.lookup_cons, Nat.reduceBEq] <;> rfl) hg (q_load_leaf Tryz.underlying3)) ?_ | refine sg rfl (fun hg => strip 7 (by simp only [GS.set, GS.get, List.lookup_cons, Nat.reduceBEq] <;> rfl) hg (q_loadp_leaf Tryz.underlying3)) ?_
  refine sg rfl (fun hg => strip 8 (by simp only [GS.set, GS.get, List.lookup_cons, Nat.reduceBEq] <;> rfl) hg (q_eql)) ?_
  refine sv rfl (y_or) ?_
  refine sv rfl (y_move) ?_
  first | refine sg rfl (fun hg => q_fieldAddr Tryz.underlying27 rfl sz3) ?_ | refine sg rfl (fun hg => q_fieldp_leaf Tryz.underlying27 rfl sz3) ?_
  first | refine sg rfl (fun hg => strip 12 (by simp only [GS.set, GS.get, List.lookup_cons, Nat.reduceBEq] <;> rfl) hg (q_load_leaf Tryz.underlying3)) ?_ | refine sg rfl (fun hg => strip 12 (by simp only [GS.set, GS.get, List.lookup_cons, Nat.reduceBEq] <;> rfl) hg (q_loadp_leaf Tryz.underlying3)) ?_
  refine sg rfl (fun hg => strip 13 (by simp only [GS.set, GS.get, List.lookup_cons, Nat.reduceBEq] <;> rfl) hg (q_eql)) ?_
  refine sv rfl (y_or) ?_
  refine sv rfl (y_move) ?_
  first | refine sg rfl (fun hg => q_fieldAddr Tryz.underlying27 rfl sz3) ?_ | refine sg rfl (fun hg => q_fieldp_leaf Tryz.underlying27 rfl sz3) ?_
  first | refine sg rfl (fun hg => strip 17 (by simp only [GS.set, GS.get, List.lookup_cons, Nat.reduceBEq] <;> rfl) hg (q_load_leaf Tryz.underlying3)) ?_ | refine sg rfl (fun hg => strip 17 (by simp only [GS.set, GS.get, List.lookup_cons, Nat.reduceBEq] <;> rfl) hg (q_loadp_leaf Tryz.underlying3)) ?_
  refine sg rfl (fun hg => strip 18 (by simp only [GS.set, GS.get, List.lookup_cons, Nat.reduceBEq] <;> rfl) hg (q_geq)) ?_
  refine sv rfl (y_and) ?_
  refine sv rfl (y_move) ?_
  first | refine sg rfl (fun hg => q_fieldAddr Tryz.underlying27 rfl sz3) ?_ | refine sg rfl (fun hg => q_fieldp_leaf Tryz.underlying27 rfl sz3) ?_
  first | refine sg rfl (fun hg => strip 22 (by simp only [GS.set, GS.get, List.lookup_cons, Nat.reduceBEq] <;> rfl) hg (q_load_leaf Tryz.underlying3)) ?_ | refine sg rfl (fun hg => strip 22 (by simp only [GS.set, GS.get, List.lookup_cons, Nat.reduceBEq] <;> rfl) hg (q_loadp_leaf Tryz.underlying3)) ?_
  refine sg rfl (fun hg => strip 23 (by simp only [GS.set, GS.get, List.lookup_cons, Nat.reduceBEq] <;> rfl) hg (q_leq)) ?_
  refine sv rfl (y_and) ?_
  refine sv rfl (y_move) ?_
  first | refine sg rfl (fun hg => q_fieldAddr Tryz.underlying27 rfl sz22) ?_ | refine sg rfl (fun hg => q_fieldp_leaf Tryz.underlying27 rfl sz22) ?_
  first | refine sg rfl (fun hg => strip 27 (by simp only [GS.set, GS.get, List.lookup_cons, Nat.reduceBEq] <;> rfl) hg (q_load_leaf Tryz.underlying22)) ?_ | refine sg rfl (fun hg => strip 27 (by simp only [GS.set, GS.get, List.lookup_cons, Nat.reduceBEq] <;> rfl) hg (q_loadp_leaf Tryz.underlying22)) ?_
  refine sg rfl (fun hg => strip 28 (by simp only [GS.set, GS.get, List.lookup_cons, Nat.reduceBEq] <;> rfl) hg (q_len Tryz.underlying22)) ?_
  first | refine sg rfl (fun hg => q_fieldAddr Tryz.underlying27 rfl sz3) ?_ | refine sg rfl (fun hg => q_fieldp_leaf Tryz.underlying27 rfl sz3) ?_
  first | refine sg rfl (fun hg => strip 30 (by simp only [GS.set, GS.get, List.lookup_cons, Nat.reduceBEq] <;> rfl) hg (q_load_leaf Tryz.underlying3)) ?_ | refine sg rfl (fun hg => strip 30 (by simp only [GS.set, GS.get, List.lookup_cons, Nat.reduceBEq] <;> rfl) hg (q_loadp_leaf Tryz.underlying3)) ?_
  refine sg rfl (fun hg => strip 31 (by simp only [GS.set, GS.get, List.lookup_cons, Nat.reduceBEq] <;> rfl) hg (q_add (hw := rfl))) ?_
  refine sg rfl (fun hg => strip 32 (by simp only [GS.set, GS.get, List.lookup_cons, Nat.reduceBEq] <;> rfl) hg (strip 29 (by simp only [GS.set, GS.get, List.lookup_cons, Nat.reduceBEq] <;> rfl) hg (q_geq))) ?_
  refine sv rfl (y_and) ?_
  refine sv rfl (y_assign) ?_
  refine GOps_nil ?_
  refine thn_normal ?_
  refine G_ret ?_
  refine fin1 (by simp) ?_
  exact ⟨by (simp only [Tr.op_mk, Tr.nu_mk, Tr.kids_mk, loopsB, List.length_map, W] <;> rfl), rfl⟩
theorem knD_cof (l : KL) : (PV.d (knD l)).cellsOf = [.d (knD l)] := by cases l <;> rfl
set_option maxHeartbeats 1000000 in
theorem c132 (l : KL) (nm : ByteArray) : Pf Tryz.prog 132 [knD l, .str nm] (.d (knD (hideK nm l))) := by
  refine pf_body (rvs := [.tmp 4]) [(0, .d (knD l)), (1, .d (.str nm))] Tryz.func132 Tryz.ntmps132 Tryz.results132 (fun S0 O0 w0 m0 hm0 => ?_)
  refine G_seq ?_
  refine g_region ?_
  refine sv rfl (y_assign) ?_
  refine GOps_nil ?_
  refine thn_normal ?_
  refine G_seq ?_
  rcases knD_or l with hkd | ⟨kd, hkd⟩ <;> rw [hkd]
  ·
    refine g_region ?_
    refine sv rfl (y_move) ?_
    refine sv rfl (y_move) ?_
    refine sv rfl (y_buildS pl168 zr168) ?_
    refine sv rfl (y_box) ?_
    refine g_freeze 0 [] (.agg [.str nm, .nil, .nil]) rfl ?_
    rw [show D.ptr (.agg [.str nm, .nil, .nil]) = knD (hideK nm l) from by rw [hideK, knD, valD, hkd]]
    refine sv rfl (y_assign) ?_
    refine GOps_nil ?_
    refine thn_normal ?_
    refine G_ret ?_
    refine fin1 (by simp) ?_
    exact ⟨rfl, rfl⟩
  ·
    refine g_region ?_
    refine sv rfl (y_move) ?_
    refine sv rfl (y_move) ?_
    refine sv rfl (y_buildS pl168 zr168) ?_
    refine sv rfl (y_box) ?_
    refine g_freeze 0 [] (.agg [.str nm, .nil, .ptr kd]) rfl ?_
    rw [show D.ptr (.agg [.str nm, .nil, .ptr kd]) = knD (hideK nm l) from by rw [hideK, knD, valD, hkd]]
    refine sv rfl (y_assign) ?_
    refine GOps_nil ?_
    refine thn_normal ?_
    refine G_ret ?_
    refine fin1 (by simp) ?_
    exact ⟨rfl, rfl⟩
set_option maxHeartbeats 4000000 in
theorem c197 (t : Tr) (l : KL) (h0 : 0 ≤ t.nu) (h1 : t.nu ≤ t.kids.length) (hlim : t.kids.length ≤ 1000000) : Pf Tryz.prog 197 [knD l, t.d] (.d (knD (bindK (t.kids.take t.nu.toNat) l))) := by
  obtain ⟨op, name, num, ks⟩ := t
  rw [Tr.d_mk]
  try simp only [Tr.op_mk, Tr.nm_mk, Tr.nu_mk, Tr.kids_mk]
  try replace h0 : 0 ≤ num := h0
  try replace h1 : num ≤ ks.length := h1
  try replace hlim : ks.length ≤ 1000000 := hlim
  refine pf_body (rvs := [.tmp 4]) [(0, .d (knD l)), (1, .d (.agg [.int .i64 op, .str name, .int .i64 num, .sl (ks.map Tr.d)]))] Tryz.func197 Tryz.ntmps197 Tryz.results197 (fun S0 O0 w0 m0 hm0 => ?_)
  refine G_seq ?_
  refine g_region ?_
  refine sv rfl (y_box) ?_
  refine g_freeze 0 [] (.agg [.int .i64 op, .str name, .int .i64 num, .sl (ks.map Tr.d)]) rfl ?_
  refine sv rfl (y_assign) ?_
  refine GOps_nil ?_
  refine thn_normal ?_
  refine G_seq ?_
  refine G_seq ?_
  refine g_region ?_
  first | refine sv rfl (y_fieldAt 3 Tryz.underlying27 rfl sz22) ?_ | refine sv rfl (y_fieldAddr Tryz.underlying27 rfl sz22) ?_ | refine sv rfl (y_fieldp_leaf Tryz.underlying27 rfl sz22) ?_
  first | refine sv rfl (y_load_leaf Tryz.underlying22) ?_ | refine sv rfl (y_loadp_leaf Tryz.underlying22) ?_
  first | refine sv rfl (y_fieldAt 2 Tryz.underlying27 rfl sz3) ?_ | refine sv rfl (y_fieldAddr Tryz.underlying27 rfl sz3) ?_ | refine sv rfl (y_fieldp_leaf Tryz.underlying27 rfl sz3) ?_
  first | refine sv rfl (y_load_leaf Tryz.underlying3) ?_ | refine sv rfl (y_loadp_leaf Tryz.underlying3) ?_
  refine sv rfl (Yld_pure rfl (of_decide_eq_true rfl) (q_sliceh Tryz.underlying22 sz27 (Tr.ds_cells ks))) ?_
  refine sv rfl (y_len Tryz.underlying22) ?_
  refine sv rfl (y_move) ?_
  refine GOps_nil ?_
  refine thn_normal ?_
  refine G_block ?_
  refine g_loop (α := Nat) (fun z => ⟨[(13, .d (.int .i64 (z : Nat))), (12, .d (.int .i64 (((ks.map Tr.d).take num.toNat).length : Nat))), (11, .d (.sl ((ks.map Tr.d).take num.toNat))), (0, .d (knD (bindK (ks.take z) l)))], []⟩) (fun z => num.toNat - z) (fun z => z ≤ num.toNat) 0 (Nat.zero_le _) (fun z hz Q' hn0 he0 hr0 => ?_) (le_of)
  have hll : ((ks.map Tr.d).take num.toNat).length = num.toNat := by rw [List.length_take, List.length_map]; omega
  have hcc : ∀ x ∈ (ks.map Tr.d).take num.toNat, x.cells.length = 4 := fun x hx => Tr.ds_cells ks x (List.mem_of_mem_take hx)
  refine G_seq ?_
  refine g_region ?_
  refine sv rfl (y_lss) ?_
  refine GOps_nil ?_
  refine thn_normal ?_
  refine G_seq ?_
  refine g_cond (fun hb0 => ?_) (fun hb0 => ?_)
  ·
    have hlt : z < num.toNat := by
      have h1 : (z : Int) < ((ks.map Tr.d).take num.toNat).length := by simpa using hb0
      rw [List.length_take, List.length_map] at h1
      omega
    obtain ⟨k, hk⟩ : ∃ k, ks[z]? = some k := ⟨_, List.getElem?_eq_getElem (by omega)⟩
    have hmem := List.mem_of_getElem? hk
    obtain ⟨kop, knm, knu, kks, hke⟩ : ∃ op nm nu ks', k = .mk op nm nu ks' := by cases k; exact ⟨_, _, _, _, rfl⟩
    subst hke
    have hxd : ((ks.map Tr.d).take num.toNat)[z]? = some (.agg [.int .i64 kop, .str knm, .int .i64 knu, .sl (kks.map Tr.d)]) := by rw [List.getElem?_take_of_lt hlt, Tr.ds_get hk, Tr.d_mk]
    have hbs := bindK_step hk l
    refine G_skip ?_
    refine thn_normal ?_
    refine G_seq ?_
    refine G_block ?_
    refine G_seq ?_
    refine g_region ?_
    refine sv rfl (y_indexAddr Tryz.underlying22 sz27) ?_
    first | refine sv rfl (y_load_agg sz27 Tryz.underlying27 rfl) ?_ | refine sv rfl (y_loadp_agg (by exact sz27) Tryz.underlying27 rfl) ?_
    refine sv rfl (y_alloc zr27) ?_
    first | refine sa rfl (d_store sz27) ?_ | refine sa rfl (d_store_take sz27) ?_
    refine g_freeze 0 [] (.agg [.int .i64 kop, .str knm, .int .i64 knu, .sl (kks.map Tr.d)]) rfl ?_
    refine GOps_nil ?_
    refine thn_normal ?_
    refine g_region ?_
    refine sv rfl (y_move) ?_
    first | refine sv rfl (y_fieldAt 1 Tryz.underlying27 rfl sz9) ?_ | refine sv rfl (y_fieldAddr Tryz.underlying27 rfl sz9) ?_ | refine sv rfl (y_fieldp_leaf Tryz.underlying27 rfl sz9) ?_
    first | refine sv rfl (y_load_leaf Tryz.underlying9) ?_ | refine sv rfl (y_loadp_leaf Tryz.underlying9) ?_
    refine g_call (xs := [.tmp 17, .tmp 19]) rfl (c132 (bindK (ks.take z) l) knm) ?_
    rw [← show bindK (ks.take (z + 1)) l = hideK knm (bindK (ks.take z) l) from hbs]
    refine sv rfl (y_assign) ?_
    refine GOps_nil ?_
    refine blk_normal ?_
    refine thn_normal ?_
    refine g_region ?_
    refine sv rfl (y_add) ?_
    refine sv rfl (y_move) ?_
    refine GOps_nil ?_
    refine hn0 _ (z + 1) (by omega) (by omega) le_of
  ·
    have hge : z = num.toNat := by
      have h1 : ¬ (z : Int) < ((ks.map Tr.d).take num.toNat).length := by simpa using hb0
      omega
    refine G_exit ?_
    refine thn_exit ?_
    refine he0 _ _ ?_
    refine blk_exit ?_
    refine thn_normal ?_
    refine G_seq ?_
    refine g_region ?_
    refine sv rfl (y_move) ?_
    refine sv rfl (y_assign) ?_
    refine GOps_nil ?_
    refine thn_normal ?_
    refine G_ret ?_
    refine fin1 (by simp) ?_
    exact ⟨by rw [hge], rfl⟩
set_option maxHeartbeats 8000000 in
theorem c101p (op num : Int) (name : ByteArray) (ks : List Tr) (l : KL) (hlim : ks.length ≤ 1000000) (hL : KLens l)
    (hcb : ∀ (z : Nat) (k : Tr) (inner : KL), ks[z]? = some k → KLens inner → Gm Tryz.prog 195 [.d (.int .i64 (z : Nat)), .d k.d, .ref 0 0, .ref 1 0, .ref 2 0] [[.d (.int .i64 op), .d (.str name), .d (.int .i64 num), .d (.sl (ks.map Tr.d))], [.d (knD inner)], [.d (knD l)]] (.d (stepT op num ks l z inner k).1.d) [[.d (.int .i64 op), .d (.str name), .d (.int .i64 num), .d (.sl (ks.map Tr.d))], [.d (knD (stepT op num ks l z inner k).2)], [.d (knD l)]]) : Gm Tryz.prog 101 [.d (.sl (ks.map Tr.d)), .fn (.func 195) [] [.ref 0 0, .ref 1 0, .ref 2 0]] [[.d (.int .i64 op), .d (.str name), .d (.int .i64 num), .d (.sl (ks.map Tr.d))], [.d (knD l)], [.d (knD l)]] (.d (.sl ((Tr.puts op num ks l 0 l ks).map Tr.d))) [[.d (.int .i64 op), .d (.str name), .d (.int .i64 num), .d (.sl (ks.map Tr.d))], [.d (knD (endK op num ks l 0 l ks))], [.d (knD l)]] := by
  refine gm_body (rvs := [.tmp 4]) 3 [(0, .d (.sl (ks.map Tr.d))), (1, .fn (.func 195) [] [.ref 0 0, .ref 1 0, .ref 2 0])] Tryz.func101 Tryz.ntmps101 Tryz.results101 (fun S0 O0 w0 m0 hm0 => ?_)
  refine G_seq ?_
  refine g_region ?_
  refine sv rfl (y_assign) ?_
  refine GOps_nil ?_
  refine thn_normal ?_
  refine G_seq ?_
  refine g_region ?_
  refine sv rfl (y_assign) ?_
  refine GOps_nil ?_
  refine thn_normal ?_
  refine G_seq ?_
  refine G_seq ?_
  refine g_region ?_
  refine sv rfl (y_move) ?_
  refine sv rfl (y_len Tryz.underlying22) ?_
  refine sv rfl (y_move) ?_
  refine GOps_nil ?_
  refine thn_normal ?_
  refine G_block ?_
  refine g_loop (α := Nat × List Tr × KL) (fun z => ⟨[(10, .d (.int .i64 (z.1 : Nat))), (9, .d (.int .i64 ((ks.map Tr.d).length : Nat))), (8, .d (.sl (ks.map Tr.d))), (5, .osl 4 (z.2.1.map Tr.d)), (1, .fn (.func 195) [] [.ref 0 0, .ref 1 0, .ref 2 0])], [[.d (.int .i64 op), .d (.str name), .d (.int .i64 num), .d (.sl (ks.map Tr.d))], [.d (knD z.2.2)], [.d (knD l)]]⟩) (fun z => ks.length - z.1) (fun z => z.1 ≤ ks.length ∧ z.2.1.length = z.1 ∧ KLens z.2.2 ∧ z.2.1 ++ Tr.puts op num ks l z.1 z.2.2 (ks.drop z.1) = Tr.puts op num ks l 0 l ks ∧ endK op num ks l z.1 z.2.2 (ks.drop z.1) = endK op num ks l 0 l ks) (0, [], l) ⟨Nat.zero_le _, rfl, hL, rfl, rfl⟩ (fun z hz Q' hn0 he0 hr0 => ?_) (le_of)
  obtain ⟨z, acc, inner⟩ := z
  obtain ⟨hz1, hz2, hz3, hz4, hz5⟩ := hz
  replace hz1 : z ≤ ks.length := hz1
  replace hz2 : acc.length = z := hz2
  replace hz3 : KLens inner := hz3
  replace hz4 : acc ++ Tr.puts op num ks l z inner (ks.drop z) = Tr.puts op num ks l 0 l ks := hz4
  replace hz5 : endK op num ks l z inner (ks.drop z) = endK op num ks l 0 l ks := hz5
  refine G_seq ?_
  refine g_region ?_
  refine sv rfl (y_lss) ?_
  refine GOps_nil ?_
  refine thn_normal ?_
  refine G_seq ?_
  refine g_cond (fun hb0 => ?_) (fun hb0 => ?_)
  ·
    have hlt : z < ks.length := by simpa using hb0
    obtain ⟨k, hk⟩ : ∃ k, ks[z]? = some k := ⟨_, List.getElem?_eq_getElem hlt⟩
    have hmem := List.mem_of_getElem? hk
    have hxd := Tr.ds_get hk
    have hxa := hxd
    obtain ⟨kop, knm, knu, kks, hka⟩ := k.d_agg
    rw [hka] at hxa
    have hfa := (stepT op num ks l z inner k).1.d_eta
    refine G_skip ?_
    refine thn_normal ?_
    refine G_seq ?_
    refine G_block ?_
    refine G_seq ?_
    refine g_region ?_
    refine sv rfl (y_move) ?_
    refine sv rfl (y_indexAddr Tryz.underlying22 sz27) ?_
    first | refine sv rfl (y_load_agg sz27 Tryz.underlying27 rfl) ?_ | refine sv rfl (y_loadp_agg (by exact sz27) Tryz.underlying27 rfl) ?_
    refine sv rfl (y_alloc zr27) ?_
    refine sv rfl (y_assign) ?_
    first | refine sa rfl (d_store sz27) ?_ | refine sa rfl (d_store_take sz27) ?_
    refine g_freeze 3 [[.d (.int .i64 op), .d (.str name), .d (.int .i64 num), .d (.sl (ks.map Tr.d))], [.d (knD inner)], [.d (knD l)]] (.agg [.int .i64 kop, .str knm, .int .i64 knu, .sl (kks.map Tr.d)]) rfl ?_
    refine GOps_nil ?_
    refine thn_normal ?_
    refine g_region ?_
    first | refine sv rfl (y_move_take) ?_ | refine sv rfl (y_move) ?_
    refine sv rfl (y_move) ?_
    refine sv rfl (y_move) ?_
    first | refine sv rfl (y_load_agg sz27 Tryz.underlying27 rfl) ?_ | refine sv rfl (y_loadp_agg (by exact sz27) Tryz.underlying27 rfl) ?_
    refine g_callm [0, 1, 2] rfl (hfa ▸ hka ▸ hcb z k inner hk hz3) ?_
    refine sv rfl (y_buildSlice (xs := [.tmp 19]) Tryz.underlying22 inf27) ?_
    refine sv rfl (y_append Tryz.underlying22 inf27 (hk := by first | exact Tr.ds_cells _ | (intro x hx; simp at hx; subst hx; simp [D.cells])) (hlen := by simp [lim]; omega) (hB := by simp [lim]; omega)) ?_
    rw [← hfa, show acc.map Tr.d ++ [(stepT op num ks l z inner k).1.d] = (acc ++ [(stepT op num ks l z inner k).1]).map Tr.d from by rw [List.map_append]; rfl]
    first | refine sv rfl (y_assign_take) ?_ | refine sv rfl (y_assign) ?_
    refine GOps_nil ?_
    refine blk_normal ?_
    refine thn_normal ?_
    refine g_keep [0, 1, 4, 5, 6, 7, 8, 9, 10] ?_
    refine g_region ?_
    refine sv rfl (y_add) ?_
    refine sv rfl (y_move) ?_
    refine GOps_nil ?_
    refine hn0 _ (z + 1, acc ++ [(stepT op num ks l z inner k).1], (stepT op num ks l z inner k).2) ⟨by show z + 1 ≤ ks.length; omega, by show (acc ++ [_]).length = z + 1; rw [List.length_append, List.length_singleton]; omega, hL.step hz3 z k, by show (acc ++ [_]) ++ _ = _; rw [List.append_assoc, ← hz4, puts_drop hk]; rfl, by show endK op num ks l (z + 1) _ _ = _; rw [← hz5, endK_drop hk]⟩ (by show ks.length - (z + 1) < ks.length - z; omega) le_of
  ·
    have hge : z = ks.length := by
      have : ¬ (z : Int) < (ks.map Tr.d).length := by simpa using hb0
      rw [List.length_map] at this
      omega
    refine G_exit ?_
    refine thn_exit ?_
    refine he0 _ _ ?_
    refine blk_exit ?_
    refine thn_normal ?_
    refine G_seq ?_
    refine g_region ?_
    subst hge
    rw [List.drop_length, Tr.puts, List.append_nil] at hz4
    rw [List.drop_length, endK] at hz5
    refine sv rfl (y_move) ?_
    first | refine sv rfl (y_assign_take) ?_ | refine sv rfl (y_assign) ?_
    refine GOps_nil ?_
    refine thn_normal ?_
    refine G_ret ?_
    refine finkm [[.d (.int .i64 op), .d (.str name), .d (.int .i64 num), .d (.sl (ks.map Tr.d))], [.d (knD inner)], [.d (knD l)]] (by simp) ?_
    exact ⟨by rw [hz4], by rw [hz5]⟩
theorem l196 (op num : Int) (name : ByteArray) (ks : List Tr) : Pf Tryz.prog 196 [.agg [.int .i64 op, .str name, .int .i64 num, .sl (ks.map Tr.d)]] (.d (.bool (loopsB op num ks.length))) := Tr.d_mk op name num ks ▸ c196 (.mk op name num ks)
theorem hideV_t {k : Tr} {l : KL} (h : (k.op == 50) = true) : hideV k l = hideK k.nm l := if_pos h
theorem hideV_f {k : Tr} {l : KL} (h : (k.op == 50) = false) : hideV k l = l := if_neg (by rw [h]; decide)
set_option maxHeartbeats 8000000 in
theorem c195x (op num : Int) (name : ByteArray) (ks : List Tr) (l inner : KL) (z : Nat) (kop knu : Int) (knm : ByteArray) (kks : List Tr) (hlim : ks.length ≤ 1000000) (hz : z < ks.length) (hkl : (Tr.mk kop knm knu kks).Lens) (hL : KLens l) (hi : KLens inner)
    (ih : ∀ K : KL, KLens K → Pf Tryz.prog 110 [(Tr.mk kop knm knu kks).d, knD K] (.d ((Tr.mk kop knm knu kks).put K).d)) : Gm Tryz.prog 195 [.d (.int .i64 (z : Nat)), .d (.agg [.int .i64 kop, .str knm, .int .i64 knu, .sl (kks.map Tr.d)]), .ref 0 0, .ref 1 0, .ref 2 0] [[.d (.int .i64 op), .d (.str name), .d (.int .i64 num), .d (.sl (ks.map Tr.d))], [.d (knD inner)], [.d (knD l)]] (.d (stepT op num ks l z inner (Tr.mk kop knm knu kks)).1.d) [[.d (.int .i64 op), .d (.str name), .d (.int .i64 num), .d (.sl (ks.map Tr.d))], [.d (knD (stepT op num ks l z inner (Tr.mk kop knm knu kks)).2)], [.d (knD l)]] := by
  refine gm_body (rvs := [.cell 7 27]) 3 [(0, .d (.int .i64 (z : Nat))), (1, .d (.agg [.int .i64 kop, .str knm, .int .i64 knu, .sl (kks.map Tr.d)])), (2, .ref 0 0), (3, .ref 1 0), (4, .ref 2 0)] Tryz.func195 Tryz.ntmps195 Tryz.results195 (fun S0 O0 w0 m0 hm0 => ?_)
  refine G_seq ?_
  refine g_region ?_
  refine sv rfl (y_box) ?_
  refine g_freeze 3 [[.d (.int .i64 op), .d (.str name), .d (.int .i64 num), .d (.sl (ks.map Tr.d))], [.d (knD inner)], [.d (knD l)]] (.agg [.int .i64 kop, .str knm, .int .i64 knu, .sl (kks.map Tr.d)]) rfl ?_
  refine sv rfl (y_alloc zr27) ?_
  refine GOps_nil ?_
  refine thn_normal ?_
  refine G_seq ?_
  refine g_region ?_
  first | refine sv rfl (y_load_agg sz27 Tryz.underlying27 rfl) ?_ | refine sv rfl (y_loadp_agg (by exact sz27) Tryz.underlying27 rfl) ?_
  refine sv rfl (y_alloc zr27) ?_
  first | refine sa rfl (d_store sz27) ?_ | refine sa rfl (d_store_take sz27) ?_
  refine GOps_nil ?_
  refine thn_normal ?_
  refine G_seq_cut (α := Tr × KL) (fun y => ⟨[(6, .d (.ptr (.agg [.int .i64 kop, .str knm, .int .i64 knu, .sl (kks.map Tr.d)]))), (3, .ref 1 0), (7, .ref 3 0), (8, .ref 4 0)], [[.d (.int .i64 op), .d (.str name), .d (.int .i64 num), .d (.sl (ks.map Tr.d))], [.d (knD y.2)], [.d (knD l)], [.d (.int .i64 0), .d (.str ⟨#[]⟩), .d (.int .i64 0), .nils], [.d (.int .i64 y.1.op), .d (.str y.1.nm), .d (.int .i64 y.1.nu), .d (.sl (y.1.kids.map Tr.d))]]⟩) (fun y => (y.1, hideV (Tr.mk kop knm knu kks) y.2) = stepT op num ks l z inner (Tr.mk kop knm knu kks)) (fun Q' hn he hr => ?_) (fun y hy => ?_)
  ·
    refine G_block ?_
    refine G_seq ?_
    refine G_seq ?_
    refine g_region ?_
    first | refine sv rfl (y_fieldAt 0 Tryz.underlying27 rfl sz3) ?_ | refine sv rfl (y_fieldAddr Tryz.underlying27 rfl sz3) ?_ | refine sv rfl (y_fieldp_leaf Tryz.underlying27 rfl sz3) ?_
    first | refine sv rfl (y_load_leaf Tryz.underlying3) ?_ | refine sv rfl (y_loadp_leaf Tryz.underlying3) ?_
    refine sv rfl (y_eql) ?_
    refine sv rfl (y_move) ?_
    refine sg rfl (fun hg => q_move) ?_
    refine sg rfl (fun hg => strip 18 (by simp only [GS.set, GS.get, List.lookup_cons, Nat.reduceBEq] <;> rfl) hg (q_eql)) ?_
    refine sv rfl (y_and) ?_
    refine sv rfl (y_move) ?_
    first | refine sg rfl (fun hg => q_fieldAddr Tryz.underlying27 rfl sz3) ?_ | refine sg rfl (fun hg => q_fieldp_leaf Tryz.underlying27 rfl sz3) ?_
    first | refine sg rfl (fun hg => strip 22 (by simp only [GS.set, GS.get, List.lookup_cons, Nat.reduceBEq] <;> rfl) hg (q_load_leaf Tryz.underlying3)) ?_ | refine sg rfl (fun hg => strip 22 (by simp only [GS.set, GS.get, List.lookup_cons, Nat.reduceBEq] <;> rfl) hg (q_loadp_leaf Tryz.underlying3)) ?_
    refine sg rfl (fun hg => strip 23 (by simp only [GS.set, GS.get, List.lookup_cons, Nat.reduceBEq] <;> rfl) hg (q_eql)) ?_
    refine sv rfl (y_and) ?_
    refine sv rfl (y_assign) ?_
    refine GOps_nil ?_
    refine thn_normal ?_
    refine g_cond (fun hb0 => ?_) (fun hb0 => ?_)
    ·
      have hkp : keepsB op num ks.length z (Tr.mk kop knm knu kks) = true := by
        unfold keepsB
        rw [show (((op == 51 && (z : Int) == 0) && ((Tr.mk kop knm knu kks)).op == 4)) = ((op == 51 && (z : Int) == 0) && kop == 4) from rfl]
        rw [show ((op == 51 && (z : Int) == 0) && kop == 4) = true from hb0]; rfl
      refine G_skip ?_
      refine thn_normal ?_
      refine g_cond (fun hb1 => ?_) (fun hb1 => ?_)
      ·
        refine g_region ?_
        first | refine sv rfl (y_load_agg sz27 Tryz.underlying27 rfl) ?_ | refine sv rfl (y_loadp_agg (by exact sz27) Tryz.underlying27 rfl) ?_
        refine g_call (xs := [.tmp 34]) rfl ((Tr.d_mk kop knm knu kks ▸ c100 (Tr.mk kop knm knu kks) hkl)) ?_
        first | refine sa rfl (d_store sz27) ?_ | refine sa rfl (d_store_take sz27) ?_
        refine GOps_nil ?_
        refine blk_normal ?_
        refine hn _ ((Tr.mk kop knm knu kks), inner) (by rw [stepT, if_pos hkp]) le_of
      ·
        exact absurd (hb0.symm.trans hb1) (by decide)
    ·
      refine g_region ?_
      first | refine sv rfl (y_load_agg sz27 Tryz.underlying27 rfl) ?_ | refine sv rfl (y_loadp_agg (by exact sz27) Tryz.underlying27 rfl) ?_
      refine g_call (xs := [.tmp 26]) rfl (l196 op num name ks) ?_
      refine sv rfl (y_move) ?_
      refine sg rfl (fun hg => q_move) ?_
      first | refine sg rfl (fun hg => q_fieldAddr Tryz.underlying27 rfl sz3) ?_ | refine sg rfl (fun hg => q_fieldp_leaf Tryz.underlying27 rfl sz3) ?_
      first | refine sg rfl (fun hg => strip 30 (by simp only [GS.set, GS.get, List.lookup_cons, Nat.reduceBEq] <;> rfl) hg (q_load_leaf Tryz.underlying3)) ?_ | refine sg rfl (fun hg => strip 30 (by simp only [GS.set, GS.get, List.lookup_cons, Nat.reduceBEq] <;> rfl) hg (q_loadp_leaf Tryz.underlying3)) ?_
      refine sg rfl (fun hg => strip 31 (by simp only [GS.set, GS.get, List.lookup_cons, Nat.reduceBEq] <;> rfl) hg (strip 29 (by simp only [GS.set, GS.get, List.lookup_cons, Nat.reduceBEq] <;> rfl) hg (q_lss))) ?_
      refine sv rfl (y_and) ?_
      refine sv rfl (y_assign) ?_
      refine GOps_nil ?_
      refine thn_normal ?_
      refine g_cond (fun hb2 => ?_) (fun hb2 => ?_)
      ·
        have hkp : keepsB op num ks.length z (Tr.mk kop knm knu kks) = true := by
          unfold keepsB
          rw [show (((op == 51 && (z : Int) == 0) && ((Tr.mk kop knm knu kks)).op == 4)) = ((op == 51 && (z : Int) == 0) && kop == 4) from rfl]
          rw [show (loopsB op num ks.length && decide ((z : Int) < num)) = true from hb2, Bool.or_true]
        refine g_region ?_
        first | refine sv rfl (y_load_agg sz27 Tryz.underlying27 rfl) ?_ | refine sv rfl (y_loadp_agg (by exact sz27) Tryz.underlying27 rfl) ?_
        refine g_call (xs := [.tmp 34]) rfl ((Tr.d_mk kop knm knu kks ▸ c100 (Tr.mk kop knm knu kks) hkl)) ?_
        first | refine sa rfl (d_store sz27) ?_ | refine sa rfl (d_store_take sz27) ?_
        refine GOps_nil ?_
        refine blk_normal ?_
        refine hn _ ((Tr.mk kop knm knu kks), inner) (by rw [stepT, if_pos hkp]) le_of
      ·
        have hkn : keepsB op num ks.length z (Tr.mk kop knm knu kks) = false := by
          unfold keepsB
          rw [show (((op == 51 && (z : Int) == 0) && ((Tr.mk kop knm knu kks)).op == 4)) = ((op == 51 && (z : Int) == 0) && kop == 4) from rfl, show ((op == 51 && (z : Int) == 0) && kop == 4) = false from hb0, show (loopsB op num ks.length && decide ((z : Int) < num)) = false from hb2]; rfl
        refine G_seq ?_
        refine g_region ?_
        first | refine sv rfl (y_load_agg sz27 Tryz.underlying27 rfl) ?_ | refine sv rfl (y_loadp_agg (by exact sz27) Tryz.underlying27 rfl) ?_
        refine g_call (xs := [.tmp 37]) rfl (l196 op num name ks) ?_
        refine sv rfl (y_move) ?_
        refine sg rfl (fun hg => q_move) ?_
        first | refine sg rfl (fun hg => q_fieldAddr Tryz.underlying27 rfl sz3) ?_ | refine sg rfl (fun hg => q_fieldp_leaf Tryz.underlying27 rfl sz3) ?_
        first | refine sg rfl (fun hg => strip 41 (by simp only [GS.set, GS.get, List.lookup_cons, Nat.reduceBEq] <;> rfl) hg (q_load_leaf Tryz.underlying3)) ?_ | refine sg rfl (fun hg => strip 41 (by simp only [GS.set, GS.get, List.lookup_cons, Nat.reduceBEq] <;> rfl) hg (q_loadp_leaf Tryz.underlying3)) ?_
        refine sg rfl (fun hg => strip 42 (by simp only [GS.set, GS.get, List.lookup_cons, Nat.reduceBEq] <;> rfl) hg (q_add (hw := rfl))) ?_
        refine sg rfl (fun hg => strip 43 (by simp only [GS.set, GS.get, List.lookup_cons, Nat.reduceBEq] <;> rfl) hg (strip 40 (by simp only [GS.set, GS.get, List.lookup_cons, Nat.reduceBEq] <;> rfl) hg (q_eql))) ?_
        refine sv rfl (y_and) ?_
        refine sv rfl (y_assign) ?_
        refine GOps_nil ?_
        refine thn_normal ?_
        refine g_cond (fun hb3 => ?_) (fun hb3 => ?_)
        ·
          have hbd : (loopsB op num ks.length && (z : Int) == W (num + 1)) = true := hb3
          have hlp := (Bool.and_eq_true_iff.1 hbd).1
          refine G_seq ?_
          refine g_cg [46, 47, 48, 49, 50] (fun bq => [[.d (.int .i64 op), .d (.str name), .d (.int .i64 num), .d (.sl (ks.map Tr.d))], [.d (knD inner)], [.d (knD l)], [.d (.int .i64 0), .d (.str ⟨#[]⟩), .d (.int .i64 0), .nils], cond (bq 5) [.d (.int .i64 ((Tr.mk kop knm knu kks).put (bindK (ks.take num.toNat) inner)).op), .d (.str ((Tr.mk kop knm knu kks).put (bindK (ks.take num.toNat) inner)).nm), .d (.int .i64 ((Tr.mk kop knm knu kks).put (bindK (ks.take num.toNat) inner)).nu), .d (.sl (((Tr.mk kop knm knu kks).put (bindK (ks.take num.toNat) inner)).kids.map Tr.d))] [.d (.int .i64 kop), .d (.str knm), .d (.int .i64 knu), .d (.sl (kks.map Tr.d))]]) rfl ?_
          refine cg_pre [] ?_
          first | refine cg_st 1 (fun bq rest hc1 hc2 hc3 => sv rfl (y_load_agg sz27 Tryz.underlying27 rfl) (GOps_nil ⟨rfl, rfl⟩)) ?_ | refine cg_st 1 (fun bq rest hc1 hc2 hc3 => sv rfl (y_loadp_agg (by exact sz27) Tryz.underlying27 rfl) (GOps_nil ⟨rfl, rfl⟩)) ?_
          refine cg_pre [] ?_
          refine cg_st 2 (fun bq rest hc1 hc2 hc3 => by
              have hs := hc3.no 5 1 hc1
              have e2 : upd bq 1 5 = false := hs
              simp only [hs, cond_false]
              refine sv rfl (y_load_leaf Tryz.underlying141) ?_
              exact (GOps_nil ⟨rfl, by rw [e2]; rfl⟩)) ?_
          refine cg_pre [] ?_
          refine cg_st 3 (fun bq rest hc1 hc2 hc3 => by
              have hs := hc3.no 5 2 hc1
              have e2 : upd bq 2 5 = false := hs
              simp only [hs, cond_false]
              refine sv rfl (y_load_agg sz27 Tryz.underlying27 rfl) ?_
              exact (GOps_nil ⟨rfl, by rw [e2]; rfl⟩)) ?_
          refine cg_pre [1, 2] ?_
          refine cg_st 4 (fun bq rest hc1 hc2 hc3 => g_call (xs := [.tmp 47, .tmp 48]) rfl ((Tr.d_mk op name num ks ▸ c197 (.mk op name num ks) inner (loops_num hlp).1 (by have := (loops_num hlp).2; show num ≤ ks.length; omega) hlim)) (GOps_nil ⟨rfl, rfl⟩)) ?_
          refine cg_pre [0, 3, 3] ?_
          refine cg_st 5 (fun bq rest hc1 hc2 hc3 => g_call (xs := [.tmp 46, .tmp 49]) rfl ((((Tr.mk kop knm knu kks).put (bindK (ks.take num.toNat) inner)).d_eta ▸ Tr.d_mk kop knm knu kks ▸ ih (bindK (ks.take num.toNat) inner) (KLens.bind _ hi))) (GOps_nil ⟨rfl, rfl⟩)) ?_
          refine cg_pre [4, 4, 0, 1, 2, 3, 4] ?_
          refine cg_act 6 (fun bq rest hc1 hc2 hc3 => by
              have e2 : upd bq 5 5 = true := rfl
              simp only [hc1, cond_false]
              refine sa rfl (d_store sz27) ?_
              exact (GOps_nil ⟨rfl, by rw [e2]; rfl⟩)) ?_
          refine cg_done (mem'' := [[.d (.int .i64 op), .d (.str name), .d (.int .i64 num), .d (.sl (ks.map Tr.d))], [.d (knD inner)], [.d (knD l)], [.d (.int .i64 0), .d (.str ⟨#[]⟩), .d (.int .i64 0), .nils], [.d (.int .i64 ((Tr.mk kop knm knu kks).put (bindK (ks.take num.toNat) inner)).op), .d (.str ((Tr.mk kop knm knu kks).put (bindK (ks.take num.toNat) inner)).nm), .d (.int .i64 ((Tr.mk kop knm knu kks).put (bindK (ks.take num.toNat) inner)).nu), .d (.sl (((Tr.mk kop knm knu kks).put (bindK (ks.take num.toNat) inner)).kids.map Tr.d))]]) ?_
          refine thn_normal ?_
          refine g_region ?_
          first | refine sv rfl (y_load_leaf Tryz.underlying141) ?_ | refine sv rfl (y_loadp_leaf Tryz.underlying141) ?_
          refine sa rfl (d_store (hps := knD_cof l) sz141) ?_
          refine GOps_nil ?_
          refine blk_normal ?_
          refine hn _ ((Tr.mk kop knm knu kks).put (bindK (ks.take num.toNat) inner), l) (by rw [stepT, if_neg (by rw [hkn]; decide), if_pos hbd]) le_of
        ·
          have hbd : (loopsB op num ks.length && (z : Int) == W (num + 1)) = false := hb3
          refine g_region ?_
          first | refine sv rfl (y_load_agg sz27 Tryz.underlying27 rfl) ?_ | refine sv rfl (y_loadp_agg (by exact sz27) Tryz.underlying27 rfl) ?_
          first | refine sv rfl (y_load_leaf Tryz.underlying141) ?_ | refine sv rfl (y_loadp_leaf Tryz.underlying141) ?_
          refine g_call (xs := [.tmp 10, .tmp 11]) rfl ((((Tr.mk kop knm knu kks).put inner).d_eta ▸ Tr.d_mk kop knm knu kks ▸ ih inner hi)) ?_
          first | refine sa rfl (d_store sz27) ?_ | refine sa rfl (d_store_take sz27) ?_
          refine GOps_nil ?_
          refine blk_normal ?_
          refine hn _ ((Tr.mk kop knm knu kks).put inner, inner) (by rw [stepT, if_neg (by rw [hkn]; decide), if_neg (by rw [hbd]; decide)]) le_of
  ·
    obtain ⟨y, yk⟩ := y
    replace hy : (y, hideV (Tr.mk kop knm knu kks) yk) = stepT op num ks l z inner (Tr.mk kop knm knu kks) := hy
    refine G_seq ?_
    refine G_seq ?_
    refine g_region ?_
    first | refine sv rfl (y_fieldAt 0 Tryz.underlying27 rfl sz3) ?_ | refine sv rfl (y_fieldAddr Tryz.underlying27 rfl sz3) ?_ | refine sv rfl (y_fieldp_leaf Tryz.underlying27 rfl sz3) ?_
    first | refine sv rfl (y_load_leaf Tryz.underlying3) ?_ | refine sv rfl (y_loadp_leaf Tryz.underlying3) ?_
    refine sv rfl (y_eql) ?_
    refine GOps_nil ?_
    refine thn_normal ?_
    refine g_cond (fun hb4 => ?_) (fun hb4 => ?_)
    ·
      have e1 : (stepT op num ks l z inner (Tr.mk kop knm knu kks)).1 = y := by rw [← hy]
      have e2 : (stepT op num ks l z inner (Tr.mk kop knm knu kks)).2 = hideK knm yk := by rw [← hy]; exact hideV_t hb4
      refine g_region ?_
      first | refine sv rfl (y_load_leaf Tryz.underlying141) ?_ | refine sv rfl (y_loadp_leaf Tryz.underlying141) ?_
      first | refine sv rfl (y_fieldAt 1 Tryz.underlying27 rfl sz9) ?_ | refine sv rfl (y_fieldAddr Tryz.underlying27 rfl sz9) ?_ | refine sv rfl (y_fieldp_leaf Tryz.underlying27 rfl sz9) ?_
      first | refine sv rfl (y_load_leaf Tryz.underlying9) ?_ | refine sv rfl (y_loadp_leaf Tryz.underlying9) ?_
      refine g_call (xs := [.tmp 55, .tmp 57]) rfl (c132 yk knm) ?_
      first | refine sa rfl (d_store sz141) ?_ | refine sa rfl (d_store_take sz141) ?_
      refine GOps_nil ?_
      refine thn_normal ?_
      refine G_seq ?_
      refine g_region ?_
      first | refine sv rfl (y_load_agg sz27 Tryz.underlying27 rfl) ?_ | refine sv rfl (y_loadp_agg (by exact sz27) Tryz.underlying27 rfl) ?_
      first | refine sa rfl (d_store sz27) ?_ | refine sa rfl (d_store_take sz27) ?_
      refine GOps_nil ?_
      refine thn_normal ?_
      refine G_ret ?_
      refine fincm [[.d (.int .i64 op), .d (.str name), .d (.int .i64 num), .d (.sl (ks.map Tr.d))], [.d (knD (hideK knm yk))], [.d (knD l)]] sz27 Tryz.underlying27 (by simp) ?_
      exact ⟨by rw [e1, y.d_eta], by rw [e2]⟩
    ·
      have e1 : (stepT op num ks l z inner (Tr.mk kop knm knu kks)).1 = y := by rw [← hy]
      have e2 : (stepT op num ks l z inner (Tr.mk kop knm knu kks)).2 = yk := by rw [← hy]; exact hideV_f hb4
      refine G_skip ?_
      refine thn_normal ?_
      refine G_seq ?_
      refine g_region ?_
      first | refine sv rfl (y_load_agg sz27 Tryz.underlying27 rfl) ?_ | refine sv rfl (y_loadp_agg (by exact sz27) Tryz.underlying27 rfl) ?_
      first | refine sa rfl (d_store sz27) ?_ | refine sa rfl (d_store_take sz27) ?_
      refine GOps_nil ?_
      refine thn_normal ?_
      refine G_ret ?_
      refine fincm [[.d (.int .i64 op), .d (.str name), .d (.int .i64 num), .d (.sl (ks.map Tr.d))], [.d (knD yk)], [.d (knD l)]] sz27 Tryz.underlying27 (by simp) ?_
      exact ⟨by rw [e1, y.d_eta], by rw [e2]⟩
theorem c195 (op num : Int) (name : ByteArray) (ks : List Tr) (l : KL) (hlim : ks.length ≤ 1000000) (hL : KLens l) (hks : ∀ k ∈ ks, k.Lens) (ih : ∀ k ∈ ks, ∀ K : KL, KLens K → Pf Tryz.prog 110 [k.d, knD K] (.d (k.put K).d)) :
    ∀ (z : Nat) (k : Tr) (inner : KL), ks[z]? = some k → KLens inner → Gm Tryz.prog 195 [.d (.int .i64 (z : Nat)), .d k.d, .ref 0 0, .ref 1 0, .ref 2 0] [[.d (.int .i64 op), .d (.str name), .d (.int .i64 num), .d (.sl (ks.map Tr.d))], [.d (knD inner)], [.d (knD l)]] (.d (stepT op num ks l z inner k).1.d) [[.d (.int .i64 op), .d (.str name), .d (.int .i64 num), .d (.sl (ks.map Tr.d))], [.d (knD (stepT op num ks l z inner k).2)], [.d (knD l)]] := by
  intro z k inner hk hi
  have hmem := List.mem_of_getElem? hk
  obtain ⟨kop, knm, knu, kks⟩ := k
  rw [Tr.d_mk]
  exact c195x op num name ks l inner z kop knu knm kks hlim (List.getElem?_eq_some_iff.1 hk).1 (hks _ hmem) hL hi (ih _ hmem)
theorem Tr.Lens.mk' {op num : Int} {nm : ByteArray} {ks : List Tr} (h : (Tr.mk op nm num ks).Lens) : ks.length ≤ 1000000 ∧ ∀ k ∈ ks, k.Lens := by cases h; exact ⟨by assumption, by assumption⟩
set_option maxHeartbeats 8000000 in
theorem c110n : ∀ (n : Nat) (t : Tr), t.size ≤ n → t.Lens → ∀ l : KL, KLens l → Pf Tryz.prog 110 [t.d, knD l] (.d (t.put l).d) := by
  intro n
  induction n with
  | zero => intro t h; exact absurd t.size_pos (by omega)
  | succ n ih =>
    intro t hsz hlen l hL
    obtain ⟨op, name, num, ks⟩ := t
    obtain ⟨hlim, hks⟩ := hlen.mk'
    have hI : ∀ k ∈ ks, ∀ K : KL, KLens K → Pf Tryz.prog 110 [k.d, knD K] (.d (k.put K).d) := fun k hk => ih k (by have := Tr.size_mem hk; rw [Tr.size] at hsz; omega) (hks k hk)
    rw [Tr.d_mk]
    refine pf_body (rvs := [.cell 4 27]) [(0, .d (.agg [.int .i64 op, .str name, .int .i64 num, .sl (ks.map Tr.d)])), (1, .d (knD l))] Tryz.func110 Tryz.ntmps110 Tryz.results110 (fun S0 O0 w0 m0 hm0 => ?_)
    refine G_seq ?_
    refine g_region ?_
    refine sv rfl (y_box) ?_
    refine sv rfl (y_box (hcs := by rw [knD_cof])) ?_
    refine sv rfl (y_alloc zr27) ?_
    refine GOps_nil ?_
    refine thn_normal ?_
    refine G_seq ?_
    refine G_seq ?_
    refine g_region ?_
    first | refine sv rfl (y_fieldAt 0 Tryz.underlying27 rfl sz3) ?_ | refine sv rfl (y_fieldAddr Tryz.underlying27 rfl sz3) ?_ | refine sv rfl (y_fieldp_leaf Tryz.underlying27 rfl sz3) ?_
    first | refine sv rfl (y_load_leaf Tryz.underlying3) ?_ | refine sv rfl (y_loadp_leaf Tryz.underlying3) ?_
    refine GOps_nil ?_
    refine thn_normal ?_
    refine G_block ?_
    refine G_seq ?_
    refine g_region ?_
    refine sv rfl (y_eql) ?_
    refine sv rfl (y_assign) ?_
    refine GOps_nil ?_
    refine thn_normal ?_
    refine g_cond (fun hb0 => ?_) (fun hb0 => ?_)
    ·
      refine G_seq ?_
      refine G_seq ?_
      refine g_region ?_
      first | refine sv rfl (y_load_leaf Tryz.underlying141) ?_ | refine sv rfl (y_loadp_leaf Tryz.underlying141) ?_
      first | refine sv rfl (y_fieldAt 1 Tryz.underlying27 rfl sz9) ?_ | refine sv rfl (y_fieldAddr Tryz.underlying27 rfl sz9) ?_ | refine sv rfl (y_fieldp_leaf Tryz.underlying27 rfl sz9) ?_
      first | refine sv rfl (y_load_leaf Tryz.underlying9) ?_ | refine sv rfl (y_loadp_leaf Tryz.underlying9) ?_
      refine g_call (xs := [.tmp 11, .tmp 13]) rfl (c181 l name) ?_
      refine sv rfl (y_assign) ?_
      refine GOps_nil ?_
      refine thn_normal ?_
      refine G_seq ?_
      rcases hfv : findK name l with _ | v
      ·
        refine g_keep [0, 1, 2, 3, 4, 5, 6, 8] ?_
        refine g_region ?_
        rw [valD]
        refine sv rfl (y_move) ?_
        refine sv rfl (Yld_pure rfl (of_decide_eq_true rfl) (q_ptrneq Tryz.underlying139)) ?_
        refine GOps_nil ?_
        refine thn_normal ?_
        refine g_cond (fun hb1 => ?_) (fun hb1 => ?_)
        ·
          exact absurd hb1 (by decide)
        ·
          refine G_skip ?_
          refine thn_normal ?_
          refine G_seq ?_
          refine g_region ?_
          first | refine sv rfl (y_load_agg sz27 Tryz.underlying27 rfl) ?_ | refine sv rfl (y_loadp_agg (by exact sz27) Tryz.underlying27 rfl) ?_
          refine g_call (xs := [.tmp 21]) rfl ((Tr.d_mk op name num ks ▸ c100 (.mk op name num ks) hlen)) ?_
          first | refine sa rfl (d_store sz27) ?_ | refine sa rfl (d_store_take sz27) ?_
          refine GOps_nil ?_
          refine thn_normal ?_
          refine G_ret ?_
          refine blk_ret ?_
          refine thn_ret ?_
          refine findc sz27 Tryz.underlying27 (by simp) ?_
          exact ⟨by rw [Tr.put, if_pos hb0, hfv, Tr.d_mk], rfl⟩
      ·
        refine g_keep [0, 1, 2, 3, 4, 5, 6, 8] ?_
        refine g_region ?_
        rw [valD, v.d_eta]
        refine sv rfl (y_move) ?_
        refine sv rfl (Yld_pure rfl (of_decide_eq_true rfl) (q_ptrneq Tryz.underlying139)) ?_
        refine GOps_nil ?_
        refine thn_normal ?_
        refine g_cond (fun hb2 => ?_) (fun hb2 => ?_)
        ·
          refine G_seq ?_
          refine g_region ?_
          refine sv rfl (y_move) ?_
          refine sv rfl (y_nilCheck) ?_
          first | refine sv rfl (y_load_agg sz27 Tryz.underlying27 rfl) ?_ | refine sv rfl (y_loadp_agg (by exact sz27) Tryz.underlying27 rfl) ?_
          refine g_call (xs := [.tmp 19]) rfl ((v.d_eta ▸ c100 v (findK_lens hL v hfv))) ?_
          first | refine sa rfl (d_store sz27) ?_ | refine sa rfl (d_store_take sz27) ?_
          refine GOps_nil ?_
          refine thn_normal ?_
          refine G_ret ?_
          refine thn_ret ?_
          refine blk_ret ?_
          refine thn_ret ?_
          refine findc sz27 Tryz.underlying27 (by simp) ?_
          exact ⟨by rw [Tr.put, if_pos hb0, hfv, v.d_eta], rfl⟩
        ·
          exact absurd hb2 (by decide)
    ·
      refine G_seq ?_
      refine g_region ?_
      refine sv rfl (y_eql) ?_
      refine sv rfl (y_assign) ?_
      refine GOps_nil ?_
      refine thn_normal ?_
      refine g_cond (fun hb3 => ?_) (fun hb3 => ?_)
      ·
        refine G_seq ?_
        refine g_region ?_
        first | refine sv rfl (y_load_agg sz27 Tryz.underlying27 rfl) ?_ | refine sv rfl (y_loadp_agg (by exact sz27) Tryz.underlying27 rfl) ?_
        refine g_call (xs := [.tmp 25]) rfl ((Tr.d_mk op name num ks ▸ c100 (.mk op name num ks) hlen)) ?_
        first | refine sa rfl (d_store sz27) ?_ | refine sa rfl (d_store_take sz27) ?_
        refine GOps_nil ?_
        refine thn_normal ?_
        refine G_ret ?_
        refine blk_ret ?_
        refine thn_ret ?_
        refine findc sz27 Tryz.underlying27 (by simp) ?_
        exact ⟨by rw [Tr.put, if_neg (by rw [hb0]; decide), if_pos hb3, Tr.d_mk], rfl⟩
      ·
        refine G_skip ?_
        refine blk_normal ?_
        refine thn_normal ?_
        refine G_seq ?_
        refine g_region ?_
        first | refine sv rfl (y_load_leaf Tryz.underlying141) ?_ | refine sv rfl (y_loadp_leaf Tryz.underlying141) ?_
        refine sv rfl (y_alloc zr141) ?_
        refine sa rfl (d_store (hps := knD_cof l) sz141) ?_
        refine GOps_nil ?_
        refine thn_normal ?_
        refine G_seq ?_
        refine g_keep [0, 1, 2, 3, 4, 5, 6, 8] ?_
        refine g_region ?_
        first | refine sv rfl (y_fieldAt 3 Tryz.underlying27 rfl sz22) ?_ | refine sv rfl (y_fieldAddr Tryz.underlying27 rfl sz22) ?_ | refine sv rfl (y_fieldp_leaf Tryz.underlying27 rfl sz22) ?_
        first | refine sv rfl (y_load_leaf Tryz.underlying22) ?_ | refine sv rfl (y_loadp_leaf Tryz.underlying22) ?_
        refine sv rfl (y_makeFunc (xs := []) (ys := [.tmp 2, .tmp 6, .tmp 3])) ?_
        refine g_callm [0, 3, 1] rfl (c101p op num name ks l hlim hL (c195 op num name ks l hlim hL hks hI)) ?_
        first | refine sv rfl (y_fieldAt 3 Tryz.underlying27 rfl sz22) ?_ | refine sv rfl (y_fieldAddr Tryz.underlying27 rfl sz22) ?_ | refine sv rfl (y_fieldp_leaf Tryz.underlying27 rfl sz22) ?_
        first | refine sa rfl (d_store sz22) ?_ | refine sa rfl (d_store_take sz22) ?_
        refine GOps_nil ?_
        refine thn_normal ?_
        refine G_seq ?_
        refine g_region ?_
        first | refine sv rfl (y_load_agg sz27 Tryz.underlying27 rfl) ?_ | refine sv rfl (y_loadp_agg (by exact sz27) Tryz.underlying27 rfl) ?_
        first | refine sa rfl (d_store sz27) ?_ | refine sa rfl (d_store_take sz27) ?_
        refine GOps_nil ?_
        refine thn_normal ?_
        refine G_ret ?_
        refine findc sz27 Tryz.underlying27 (by simp) ?_
        exact ⟨by rw [Tr.put, if_neg (by rw [hb0]; decide), if_neg (by rw [hb3]; decide), Tr.d_mk], rfl⟩
theorem c110 (t : Tr) (h : t.Lens) (l : KL) (hL : KLens l) : Pf Tryz.prog 110 [t.d, knD l] (.d (t.put l).d) := c110n _ t (Nat.le_refl _) h l hL
theorem kl_lens {l : List (ByteArray × Tr)} (h : ∀ c ∈ l, c.2.Lens) : KLens (kl l) := by
  intro x hx t ht
  unfold kl at hx
  rw [List.mem_reverse, List.mem_map] at hx
  obtain ⟨c, hc, rfl⟩ := hx
  injection ht with ht
  subst ht
  exact h c hc
theorem c36 (t : Tr) (hlen : t.Lens) (l : List (ByteArray × Tr)) (hl : COk l) : Pf Tryz.prog 36 [t.d, .sl (l.map cD)] (.d (t.put (kl l)).d) := by
  obtain ⟨op, name, num, ks⟩ := t
  rw [Tr.d_mk]
  try simp only [Tr.op_mk, Tr.nm_mk, Tr.nu_mk, Tr.kids_mk]
  refine pf_body (rvs := [.cell 4 27]) [(0, .d (.agg [.int .i64 op, .str name, .int .i64 num, .sl (ks.map Tr.d)])), (1, .d (.sl (l.map cD)))] Tryz.func36 Tryz.ntmps36 Tryz.results36 (fun S0 O0 w0 m0 hm0 => ?_)
  refine G_seq ?_
  refine g_region ?_
  refine sv rfl (y_box) ?_
  refine g_freeze 0 [] (.agg [.int .i64 op, .str name, .int .i64 num, .sl (ks.map Tr.d)]) rfl ?_
  refine sv rfl (y_alloc zr27) ?_
  refine GOps_nil ?_
  refine thn_normal ?_
  refine G_seq ?_
  refine g_cg [5, 6, 7, 8] (fun bq => [cond (bq 4) [.d (.int .i64 ((Tr.mk op name num ks).put (kl l)).op), .d (.str ((Tr.mk op name num ks).put (kl l)).nm), .d (.int .i64 ((Tr.mk op name num ks).put (kl l)).nu), .d (.sl (((Tr.mk op name num ks).put (kl l)).kids.map Tr.d))] [.d (.int .i64 0), .d (.str ⟨#[]⟩), .d (.int .i64 0), .nils]]) rfl ?_
  refine cg_pre [] ?_
  first | refine cg_st 1 (fun bq rest hc1 hc2 hc3 => sv rfl (y_load_agg sz27 Tryz.underlying27 rfl) (GOps_nil ⟨rfl, rfl⟩)) ?_ | refine cg_st 1 (fun bq rest hc1 hc2 hc3 => sv rfl (y_loadp_agg (by exact sz27) Tryz.underlying27 rfl) (GOps_nil ⟨rfl, rfl⟩)) ?_
  refine cg_pre [] ?_
  refine cg_st 2 (fun bq rest hc1 hc2 hc3 => sv rfl (y_move) (GOps_nil ⟨rfl, rfl⟩)) ?_
  refine cg_pre [1] ?_
  refine cg_st 3 (fun bq rest hc1 hc2 hc3 => g_call (xs := [.tmp 6]) rfl (c105 l hl) (GOps_nil ⟨rfl, rfl⟩)) ?_
  refine cg_pre [0, 2, 2] ?_
  refine cg_st 4 (fun bq rest hc1 hc2 hc3 => g_call (xs := [.tmp 5, .tmp 7]) rfl ((((Tr.mk op name num ks).put (kl l)).d_eta ▸ Tr.d_mk op name num ks ▸ c110 (.mk op name num ks) hlen (kl l) (kl_lens fun c hc => Tr.lens_of _ _ (Nat.le_refl _) (hl.2 c hc).2))) (GOps_nil ⟨rfl, rfl⟩)) ?_
  refine cg_pre [3, 3, 0, 1, 2, 3] ?_
  refine cg_act 5 (fun bq rest hc1 hc2 hc3 => by
      have e2 : upd bq 4 4 = true := rfl
      simp only [hc1, cond_false]
      refine sa rfl (d_store sz27) ?_
      exact (GOps_nil ⟨rfl, by rw [e2]; rfl⟩)) ?_
  refine cg_done (mem'' := [[.d (.int .i64 ((Tr.mk op name num ks).put (kl l)).op), .d (.str ((Tr.mk op name num ks).put (kl l)).nm), .d (.int .i64 ((Tr.mk op name num ks).put (kl l)).nu), .d (.sl (((Tr.mk op name num ks).put (kl l)).kids.map Tr.d))]]) ?_
  refine thn_normal ?_
  refine G_ret ?_
  refine findc sz27 Tryz.underlying27 (by simp) ?_
  exact ⟨by rw [((Tr.mk op name num ks).put (kl l)).d_eta], rfl⟩
end Go.Proofs.YtklkbfpjimeaoaaGreat
