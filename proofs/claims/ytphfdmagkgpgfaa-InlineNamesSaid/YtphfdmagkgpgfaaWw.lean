/- Contracts of functions. Conditions: none. -/
import Derived.Test.YtphfdmagkgpgfaaWv
namespace Go.Proofs.Ytphfdmagkgpgfaa
open Go Go.Proofs.Ytphfdmagkgpgfaa.E

def Tr.nm : Tr → ByteArray
  | .mk _ nm _ _ => nm
def Tr.op : Tr → Int
  | .mk op _ _ _ => op
/-- A Name with a suffix behind it; other nodes stay. -/
def Tr.nmd (sfx : ByteArray) : Tr → Tr
  | .mk op nm num ks => .mk op (if op = 4 then nm ++ sfx else nm) num ks
/-- The names of what are Names. -/
def loopNames (ks : List Tr) : List ByteArray := ks.filterMap fun k => if k.op = 4 then some k.nm else none
def addV (n : ByteArray) (vis : ByteArray → Bool) : ByteArray → Bool := fun x => decide (n = x) || vis x
mutual
def Tr.ren (sfx : ByteArray) (vis : ByteArray → Bool) : Tr → Tr
  | .mk op nm num ks =>
    if op = 4 ∧ vis nm = true then .mk op (nm ++ sfx) num ks
    else .mk op (if op = 50 then nm ++ sfx else nm) num (Tr.renK sfx (isLoopD op num ks.length) num (loopNames (ks.take num.toNat)) 0 vis ks)
def Tr.renK (sfx : ByteArray) (lp : Bool) (num : Int) (dn : List ByteArray) (i : Nat) (vis : ByteArray → Bool) : List Tr → List Tr
  | [] => []
  | k :: r =>
    if lp = true ∧ (i : Int) < num then k.nmd sfx :: Tr.renK sfx lp num dn (i + 1) vis r
    else if lp = true ∧ (i : Int) = num + 1 then k.ren sfx (fun x => hasB1 x dn || vis x) :: Tr.renK sfx lp num dn (i + 1) vis r
    else k.ren sfx vis :: Tr.renK sfx lp num dn (i + 1) (if k.op = 50 then addV k.nm vis else vis) r
end
theorem Tr.ren_name {op num : Int} {nm sfx : ByteArray} {ks : List Tr} {vis : ByteArray → Bool} (h : op = 4 ∧ vis nm = true) : (Tr.mk op nm num ks).ren sfx vis = .mk op (nm ++ sfx) num ks := by rw [Tr.ren, if_pos h]
theorem Tr.ren_other {op num : Int} {nm sfx : ByteArray} {ks : List Tr} {vis : ByteArray → Bool} (h : ¬ (op = 4 ∧ vis nm = true)) :
    (Tr.mk op nm num ks).ren sfx vis = .mk op (if op = 50 then nm ++ sfx else nm) num (Tr.renK sfx (isLoopD op num ks.length) num (loopNames (ks.take num.toNat)) 0 vis ks) := by rw [Tr.ren, if_neg h]
section
variable {sfx : ByteArray} {lp : Bool} {num : Int} {dn : List ByteArray} {z : Nat} {vis : ByteArray → Bool} {ks : List Tr} {k : Tr}
theorem Tr.renK_name (hk : ks[z]? = some k) (h : lp = true ∧ (z : Int) < num) : Tr.renK sfx lp num dn z vis (ks.drop z) = k.nmd sfx :: Tr.renK sfx lp num dn (z + 1) vis (ks.drop (z + 1)) := by
  obtain ⟨hlt, rfl⟩ := List.getElem?_eq_some_iff.1 hk
  rw [List.drop_eq_getElem_cons hlt, Tr.renK, if_pos h]
theorem Tr.renK_body (hk : ks[z]? = some k) (h : lp = true ∧ (z : Int) = num + 1) : Tr.renK sfx lp num dn z vis (ks.drop z) = k.ren sfx (fun x => hasB1 x dn || vis x) :: Tr.renK sfx lp num dn (z + 1) vis (ks.drop (z + 1)) := by
  obtain ⟨hlt, rfl⟩ := List.getElem?_eq_some_iff.1 hk
  rw [List.drop_eq_getElem_cons hlt, Tr.renK, if_neg (by omega), if_pos h]
theorem Tr.renK_other (hk : ks[z]? = some k) (h : ¬ (lp = true ∧ (z : Int) < num)) (h' : ¬ (lp = true ∧ (z : Int) = num + 1)) :
    Tr.renK sfx lp num dn z vis (ks.drop z) = k.ren sfx vis :: Tr.renK sfx lp num dn (z + 1) (if k.op = 50 then addV k.nm vis else vis) (ks.drop (z + 1)) := by
  obtain ⟨hlt, rfl⟩ := List.getElem?_eq_some_iff.1 hk
  rw [List.drop_eq_getElem_cons hlt, Tr.renK, if_neg h, if_neg h']
end
theorem has_cons (n : ByteArray) (ns : List ByteArray) : (fun x => hasB1 x (n :: ns)) = addV n fun x => hasB1 x ns := by funext x; simp [hasB1, addV]
theorem has_rev (dn ns : List ByteArray) : (fun x => hasB1 x (dn.reverse ++ ns)) = fun x => hasB1 x dn || hasB1 x ns := by funext x; simp [hasB1]
theorem acc_snoc (acc : List Tr) (x : Tr) : acc.map Tr.d ++ [x.d] = (acc ++ [x]).map Tr.d := by simp
theorem loopNames_step {ks : List Tr} {z : Nat} {k : Tr} (h : ks[z]? = some k) : loopNames (ks.take (z + 1)) = loopNames (ks.take z) ++ (if k.op = 4 then [k.nm] else []) := by
  unfold loopNames
  rw [List.take_add_one, h, List.filterMap_append]
  congr 1
  by_cases hk : k.op = 4 <;> simp [hk]
theorem isLoop_num {op num : Int} {n : Nat} (h : isLoopD op num n = true) : 0 ≤ num ∧ num ≤ 2 ∧ num + 2 ≤ n := by
  unfold isLoopD at h
  simp only [Bool.and_eq_true, decide_eq_true_eq] at h
  obtain ⟨⟨⟨_, h1⟩, h2⟩, h3⟩ := h
  rw [wrap_add (by omega) (by omega)] at h3
  omega
theorem long_kids {op num : Int} {nm : ByteArray} {ks : List Tr} (h : (Tr.mk op nm num ks).long = false) : nm.size ≤ 300 ∧ ∀ k ∈ ks, k.long = false := by
  rw [Tr.long_mk, Bool.or_eq_false_iff, List.any_eq_false] at h
  obtain ⟨h1, h2⟩ := h
  have h1' : ¬ ((nm.size : Int) > 300) := of_decide_eq_false h1
  exact ⟨by omega, fun k hk => by simpa using h2 k hk⟩


theorem renK_stay {sfx : ByteArray} {lp : Bool} {num : Int} {dn : List ByteArray} {z : Nat} {vis : ByteArray → Bool} {ks : List Tr} {k : Tr} (hk : ks[z]? = some k) (hni : ¬ (lp = true ∧ (z : Int) < num)) (h : k.op = 50 → lp = true ∧ (z : Int) = num + 1) (hdn : lp = true ∧ (z : Int) = num + 1 → dn = []) :
    Tr.renK sfx lp num dn z vis (ks.drop z) = k.ren sfx vis :: Tr.renK sfx lp num dn (z + 1) vis (ks.drop (z + 1)) := by
  by_cases hb : lp = true ∧ (z : Int) = num + 1
  · rw [Tr.renK_body hk hb, hdn hb]
    have : (fun x => hasB1 x [] || vis x) = vis := by funext x; simp [hasB1]
    rw [this]
  · rw [Tr.renK_other hk hni hb, if_neg (fun e => hb (h e))]

set_option maxHeartbeats 4000000 in
theorem c40n (sfx : ByteArray) (hsfx : sfx.size ≤ 1000000) : ∀ (n : Nat) (t : Tr), t.size ≤ n → t.Ok → t.size ≤ 100000 → t.long = false → ∀ ns : List ByteArray, Pf Try.prog 40 [renD sfx, t.d, scopeD (ns.map (ent sfx))] (.d (t.ren sfx (fun x => hasB1 x ns)).d) := by
  intro n
  induction n with
  | zero => intro t h; exact absurd t.size_pos (by omega)
  | succ n ih =>
    intro t hsz hok hszb hlg ns
    obtain ⟨op, name, num, ks⟩ := t
    have hkd : ∀ k ∈ ks, k.size ≤ n := fun k hk => by
      have := Tr.size_mem hk
      rw [Tr.size] at hsz
      omega
    rw [Tr.d_mk]
    cases hok with | mk h1 h2 h3 h4 h5 =>
    have hln := Tr.len_sizes ks
    rw [Tr.size] at hszb
    obtain ⟨hnm3, hlgk⟩ := long_kids hlg
    refine pf_body (rvs := [.cell 6 24]) [(0, .d (renD sfx)), (1, .d (.agg [.int .i64 op, .str name, .int .i64 num, .sl (ks.map Tr.d)])), (2, .d (scopeD (ns.map (ent sfx))))] Try.func40 Try.ntmps40 Try.results40 (fun S0 O0 w0 m0 hm0 => ?_)
    refine G_seq ?_
    refine g_region ?_
    refine sv rfl (y_box) ?_
    refine sv rfl (y_alloc zr24) ?_
    refine GOps_nil ?_
    refine thn_normal ?_
    refine G_seq ?_
    refine G_seq ?_
    refine g_region ?_
    refine sv rfl (y_move) ?_
    first | refine sv rfl (y_fieldAddr Try.underlying24 rfl sz9) ?_ | refine sv rfl (y_fieldp_leaf Try.underlying24 rfl sz9) ?_
    first | refine sv rfl (y_load_leaf Try.underlying9) ?_ | refine sv rfl (y_loadp_leaf Try.underlying9) ?_
    refine g_call (xs := [.tmp 18, .tmp 20]) rfl (c65 (ns.map (ent sfx)) name) ?_
    refine sv rfl (y_assign) ?_
    refine GOps_nil ?_
    refine thn_normal ?_
    refine G_seq ?_
    refine g_region ?_
    first | refine sv rfl (y_fieldAddr Try.underlying24 rfl sz3) ?_ | refine sv rfl (y_fieldp_leaf Try.underlying24 rfl sz3) ?_
    first | refine sv rfl (y_load_leaf Try.underlying3) ?_ | refine sv rfl (y_loadp_leaf Try.underlying3) ?_
    refine sv rfl (y_eql) ?_
    refine sv rfl (y_move) ?_
    refine sg rfl (fun hg => q_move) ?_
    refine sg rfl (fun hg => strip 26 (by simp only [GS.set, GS.get, List.lookup_cons, Nat.reduceBEq] <;> rfl) hg (q_ptrneq Try.underlying106 (hd := find_nil sfx name ns))) ?_
    refine sv rfl (y_and) ?_
    refine GOps_nil ?_
    refine thn_normal ?_
    refine g_cond (fun hb0 => ?_) (fun hb0 => ?_)
    ·
      obtain ⟨hop, hhb⟩ : op = 4 ∧ hasB1 name ns = true := by simpa using hb0
      have hfd := find_ent sfx name ns
      rw [if_pos hhb] at hfd
      rw [hfd]
      subst hop
      refine G_seq ?_
      refine G_seq ?_
      refine g_keep [0, 1, 2, 4, 6, 7, 8, 9, 10, 11, 12, 13, 14, 15, 17, 72, 73, 74, 111, 112, 113] ?_
      refine g_region ?_
      first | refine sv rfl (y_fieldAddr Try.underlying24 rfl sz22) ?_ | refine sv rfl (y_fieldp_leaf Try.underlying24 rfl sz22) ?_
      first | refine sv rfl (y_load_leaf Try.underlying22) ?_ | refine sv rfl (y_loadp_leaf Try.underlying22) ?_
      refine sv rfl (y_len Try.underlying22) ?_
      refine sv rfl (y_eql) ?_
      refine sv rfl (y_move) ?_
      first | refine sg rfl (fun hg => q_fieldAddr Try.underlying24 rfl sz3) ?_ | refine sg rfl (fun hg => q_fieldp_leaf Try.underlying24 rfl sz3) ?_
      first | refine sg rfl (fun hg => strip 34 (by simp only [GS.set, GS.get, List.lookup_cons, Nat.reduceBEq] <;> rfl) hg (q_load_leaf Try.underlying3)) ?_ | refine sg rfl (fun hg => strip 34 (by simp only [GS.set, GS.get, List.lookup_cons, Nat.reduceBEq] <;> rfl) hg (q_loadp_leaf Try.underlying3)) ?_
      refine sg rfl (fun hg => strip 35 (by simp only [GS.set, GS.get, List.lookup_cons, Nat.reduceBEq] <;> rfl) hg (q_eql)) ?_
      refine sv rfl (y_and) ?_
      refine GOps_nil ?_
      refine thn_normal ?_
      refine g_cond (fun hb1 => ?_) (fun hb1 => ?_)
      ·
        obtain ⟨hk0, hn0⟩ : ks = [] ∧ num = 0 := by simpa using hb1
        subst hk0; subst hn0
        refine G_seq ?_
        refine g_region ?_
        refine sv rfl (y_move) ?_
        refine sv rfl (y_nilCheck) ?_
        first | refine sv rfl (y_load_agg sz24 Try.underlying24 rfl) ?_ | refine sv rfl (y_loadp_agg (by exact sz24) Try.underlying24 rfl) ?_
        refine g_call (xs := [.tmp 40]) rfl ((Tr.d_mk 4 (name ++ sfx) 0 [] ▸ c66n 1 (.mk 4 (name ++ sfx) 0 []) (by rw [Tr.size]; simp [Tr.sizes]) (.mk rfl (by rw [ByteArray.size_append]; omega) rfl (by simp) (by simp)) (by rw [Tr.size]; simp [Tr.sizes]))) ?_
        first | refine sa rfl (d_store sz24) ?_ | refine sa rfl (d_store_take sz24) ?_
        refine GOps_nil ?_
        refine thn_normal ?_
        refine G_ret ?_
        refine thn_ret ?_
        refine thn_ret ?_
        refine findc sz24 Try.underlying24 (by simp) ?_
        exact ⟨by rw [Tr.ren_name ⟨rfl, hhb⟩, Tr.d_mk]; rfl, rfl⟩
      ·
        refine G_skip ?_
        refine thn_normal ?_
        refine G_seq ?_
        refine g_region ?_
        refine sv rfl (y_move) ?_
        refine sv rfl (y_nilCheck) ?_
        first | refine sv rfl (y_fieldAddr Try.underlying24 rfl sz9) ?_ | refine sv rfl (y_fieldp_leaf Try.underlying24 rfl sz9) ?_
        first | refine sv rfl (y_load_leaf Try.underlying9) ?_ | refine sv rfl (y_loadp_leaf Try.underlying9) ?_
        first | refine sv rfl (y_fieldAddr Try.underlying24 rfl sz9) ?_ | refine sv rfl (y_fieldp_leaf Try.underlying24 rfl sz9) ?_
        first | refine sa rfl (d_store sz9) ?_ | refine sa rfl (d_store_take sz9) ?_
        refine GOps_nil ?_
        refine thn_normal ?_
        refine G_seq ?_
        refine g_keep [0, 1, 2, 4, 6, 7, 8, 9, 10, 11, 12, 13, 14, 15, 17, 72, 73, 74, 111, 112, 113] ?_
        refine g_region ?_
        first | refine sv rfl (y_load_agg sz24 Try.underlying24 rfl) ?_ | refine sv rfl (y_loadp_agg (by exact sz24) Try.underlying24 rfl) ?_
        refine g_call (xs := [.tmp 47]) rfl ((Tr.d_mk 4 (name ++ sfx) num ks ▸ c66n _ (.mk 4 (name ++ sfx) num ks) (Nat.le_refl _) (.mk h1 (by rw [ByteArray.size_append]; omega) h3 h4 h5) (by rw [Tr.size]; exact hszb))) ?_
        first | refine sa rfl (d_store sz24) ?_ | refine sa rfl (d_store_take sz24) ?_
        refine GOps_nil ?_
        refine thn_normal ?_
        refine G_ret ?_
        refine thn_ret ?_
        refine findc sz24 Try.underlying24 (by simp) ?_
        exact ⟨by rw [Tr.ren_name ⟨rfl, hhb⟩, Tr.d_mk], rfl⟩
    ·
      have hv : ¬ (op = 4 ∧ (fun x => hasB1 x ns) name = true) := by
        rintro ⟨e1, e2⟩
        replace e2 : hasB1 name ns = true := e2
        simp [e1, e2] at hb0
      refine G_skip ?_
      refine thn_normal ?_
      refine G_seq_cut (α := ByteArray) (fun nmx => ⟨[(0, .d (renD sfx)), (2, .d (scopeD (ns.map (ent sfx)))), (4, .ref 0 0), (6, .ref 1 0)], [[.d (.int .i64 op), .d (.str nmx), .d (.int .i64 num), .d (.sl (ks.map Tr.d))], [.d (.int .i64 0), .d (.str ⟨#[]⟩), .d (.int .i64 0), .nils]]⟩) (fun nmx => nmx = if op = 50 then name ++ sfx else name) (fun Q' hn he hr => ?_) (fun nmx hnmx => ?_)
      ·
        refine G_seq ?_
        refine g_keep [0, 1, 2, 4, 6, 7, 8, 9, 10, 11, 12, 13, 14, 15, 17, 72, 73, 74, 111, 112, 113] ?_
        refine g_region ?_
        first | refine sv rfl (y_fieldAddr Try.underlying24 rfl sz3) ?_ | refine sv rfl (y_fieldp_leaf Try.underlying24 rfl sz3) ?_
        first | refine sv rfl (y_load_leaf Try.underlying3) ?_ | refine sv rfl (y_loadp_leaf Try.underlying3) ?_
        refine sv rfl (y_eql) ?_
        refine GOps_nil ?_
        refine thn_normal ?_
        refine g_cond (fun hb2 => ?_) (fun hb2 => ?_)
        ·
          have h50 : op = 50 := by simpa using hb2
          refine g_region ?_
          refine sv rfl (y_move) ?_
          first | refine sv rfl (y_fieldAddr Try.underlying24 rfl sz9) ?_ | refine sv rfl (y_fieldp_leaf Try.underlying24 rfl sz9) ?_
          first | refine sv rfl (y_load_leaf Try.underlying9) ?_ | refine sv rfl (y_loadp_leaf Try.underlying9) ?_
          refine g_call (xs := [.tmp 54]) rfl (c64 name sfx (by simp only [lim]; omega)) ?_
          first | refine sv rfl (y_fieldAddr Try.underlying24 rfl sz9) ?_ | refine sv rfl (y_fieldp_leaf Try.underlying24 rfl sz9) ?_
          first | refine sa rfl (d_store sz9) ?_ | refine sa rfl (d_store_take sz9) ?_
          refine GOps_nil ?_
          refine hn _ (name ++ sfx) (by rw [if_pos h50]) le_of
        ·
          have h50 : ¬ op = 50 := by simpa using hb2
          refine G_skip ?_
          refine hn _ name (by rw [if_neg h50]) le_of
      ·
        skip
        refine G_seq ?_
        refine g_region ?_
        first | refine sv rfl (y_fieldAddr Try.underlying24 rfl sz22) ?_ | refine sv rfl (y_fieldp_leaf Try.underlying24 rfl sz22) ?_
        first | refine sv rfl (y_load_leaf Try.underlying22) ?_ | refine sv rfl (y_loadp_leaf Try.underlying22) ?_
        first | refine sv rfl (y_assign_take) ?_ | refine sv rfl (y_assign) ?_
        refine GOps_nil ?_
        refine thn_normal ?_
        refine G_seq ?_
        refine g_region ?_
        first | refine sv rfl (y_fieldAddr Try.underlying24 rfl sz22) ?_ | refine sv rfl (y_fieldp_leaf Try.underlying24 rfl sz22) ?_
        refine sa rfl (d_store sz22) ?_
        refine GOps_le (s' := ⟨[(0, .d (renD sfx)), (2, .d (scopeD (ns.map (ent sfx)))), (4, .ref 0 0), (6, .ref 1 0), (8, .d (.sl (ks.map Tr.d)))], [[.d (.int .i64 op), .d (.str nmx), .d (.int .i64 num), .nils], [.d (.int .i64 0), .d (.str ⟨#[]⟩), .d (.int .i64 0), .nils]]⟩) le_of ?_
        refine GOps_nil ?_
        refine thn_normal ?_
        refine G_seq ?_
        refine G_seq ?_
        refine g_region ?_
        refine sv rfl (y_move) ?_
        refine sv rfl (y_len Try.underlying22) ?_
        refine sv rfl (y_eql) ?_
        refine GOps_nil ?_
        refine thn_normal ?_
        refine g_cond (fun hb3 => ?_) (fun hb3 => ?_)
        ·
          have hk0 : ks = [] := by simpa using hb3
          subst hk0
          refine G_seq ?_
          refine g_region ?_
          first | refine sv rfl (y_load_agg sz24 Try.underlying24 rfl) ?_ | refine sv rfl (y_loadp_agg (by exact sz24) Try.underlying24 rfl) ?_
          first | refine sa rfl (d_store sz24) ?_ | refine sa rfl (d_store_take sz24) ?_
          refine GOps_nil ?_
          refine thn_normal ?_
          refine G_ret ?_
          refine thn_ret ?_
          refine findc sz24 Try.underlying24 (by simp) ?_
          exact ⟨by rw [Tr.ren_other hv, Tr.d_mk, Tr.renK, hnmx]; rfl, rfl⟩
        ·
          refine G_skip ?_
          refine thn_normal ?_
          refine G_seq ?_
          refine g_region ?_
          refine sv rfl (y_assign) ?_
          refine GOps_nil ?_
          refine thn_normal ?_
          refine G_seq_cut (α := Int) (fun nmz => ⟨[(0, .d (renD sfx)), (2, .d (scopeD (ns.map (ent sfx)))), (4, .ref 0 0), (6, .ref 1 0), (8, .d (.sl (ks.map Tr.d))), (9, .d (.int .i64 nmz))], [[.d (.int .i64 op), .d (.str nmx), .d (.int .i64 num), .nils], [.d (.int .i64 0), .d (.str ⟨#[]⟩), .d (.int .i64 0), .nils]]⟩) (fun nmz => nmz = if isLoopD op num ks.length = true then num else 0) (fun Q' hn he hr => ?_) (fun nmz hnmz => ?_)
          ·
            refine G_seq ?_
            refine g_keep [0, 1, 2, 4, 6, 7, 8, 9, 10, 11, 12, 13, 14, 15, 17, 72, 73, 74, 111, 112, 113] ?_
            refine g_region ?_
            first | refine sv rfl (y_load_agg sz24 Try.underlying24 rfl) ?_ | refine sv rfl (y_loadp_agg (by exact sz24) Try.underlying24 rfl) ?_
            refine sv rfl (y_alloc zr24) ?_
            first | refine sa rfl (d_store sz24) ?_ | refine sa rfl (d_store_take sz24) ?_
            refine g_freeze 2 [[.d (.int .i64 op), .d (.str nmx), .d (.int .i64 num), .nils], [.d (.int .i64 0), .d (.str ⟨#[]⟩), .d (.int .i64 0), .nils]] (.agg [.int .i64 op, .str nmx, .int .i64 num, .sl []]) rfl ?_
            refine GOps_nil ?_
            refine thn_normal ?_
            refine G_seq ?_
            refine g_region ?_
            first | refine sv rfl (y_load_agg sz24 Try.underlying24 rfl) ?_ | refine sv rfl (y_loadp_agg (by exact sz24) Try.underlying24 rfl) ?_
            refine sv rfl (y_move) ?_
            refine g_call (xs := [.tmp 65, .tmp 66]) rfl (c68 op num nmx [] (ks.map Tr.d)) ?_
            refine g_call (xs := [.tmp 67]) rfl ((by have := c67 op num nmx (ks.map Tr.d); rwa [List.length_map] at this)) ?_
            refine GOps_nil ?_
            refine thn_normal ?_
            refine g_cond (fun hb4 => ?_) (fun hb4 => ?_)
            ·
              refine g_region ?_
              first | refine sv rfl (y_fieldAddr Try.underlying24 rfl sz3) ?_ | refine sv rfl (y_fieldp_leaf Try.underlying24 rfl sz3) ?_
              first | refine sv rfl (y_load_leaf Try.underlying3) ?_ | refine sv rfl (y_loadp_leaf Try.underlying3) ?_
              refine sv rfl (y_assign) ?_
              refine GOps_nil ?_
              refine hn _ num (by rw [if_pos hb4]) le_of
            ·
              refine G_skip ?_
              refine hn _ 0 (by rw [hb4]; rfl) le_of
          ·
            obtain ⟨lp, hlp⟩ : ∃ lp, isLoopD op num ks.length = lp := ⟨_, rfl⟩
            obtain ⟨dn, hdn⟩ : ∃ dn, loopNames (ks.take num.toNat) = dn := ⟨_, rfl⟩
            obtain ⟨R, hRe⟩ : ∃ R, Tr.renK sfx lp num dn 0 (fun x => hasB1 x ns) ks = R := ⟨_, rfl⟩
            rw [hlp] at hnmz
            have hlpn : lp = true → 0 ≤ num ∧ num ≤ 2 ∧ num + 2 ≤ ks.length := fun h => isLoop_num (hlp.trans h)
            have hnz : 0 ≤ nmz ∧ nmz ≤ 2 ∧ nmz ≤ ks.length := by
              cases lp with
              | true => have := hlpn rfl; rw [if_pos rfl] at hnmz; omega
              | false => rw [if_neg (by simp)] at hnmz; omega
            refine G_seq ?_
            refine g_region ?_
            refine sv rfl (y_move) ?_
            refine sv rfl (y_assign) ?_
            refine GOps_nil ?_
            refine thn_normal ?_
            refine G_seq ?_
            refine G_seq ?_
            refine g_region ?_
            refine sv rfl (y_move) ?_
            refine sv rfl (y_len Try.underlying22) ?_
            refine sv rfl (y_move) ?_
            refine GOps_nil ?_
            refine thn_normal ?_
            refine G_block ?_
            refine g_loop (α := Nat × List ByteArray × List Tr) (fun z => ⟨[(74, .d (.int .i64 (z.1 : Nat))), (73, .d (.int .i64 ((ks.map Tr.d).length : Nat))), (72, .d (.sl (ks.map Tr.d))), (0, .d (renD sfx)), (4, .ref 0 0), (6, .ref 1 0), (8, .d (.sl (ks.map Tr.d))), (9, .d (.int .i64 nmz)), (11, .d (scopeD (z.2.1.map (ent sfx))))], [[.d (.int .i64 op), .d (.str nmx), .d (.int .i64 num), .osl 4 (z.2.2.map Tr.d)], [.d (.int .i64 0), .d (.str ⟨#[]⟩), .d (.int .i64 0), .nils]]⟩) (fun z => ks.length - z.1) (fun z => z.1 ≤ ks.length ∧ z.2.2.length = z.1 ∧ z.2.2 ++ Tr.renK sfx lp num dn z.1 (fun x => hasB1 x z.2.1) (ks.drop z.1) = R) (0, ns, []) ⟨Nat.zero_le _, rfl, by show [] ++ Tr.renK sfx lp num dn 0 (fun x => hasB1 x ns) (ks.drop 0) = R; rw [List.nil_append, List.drop_zero, hRe]⟩ (fun z hz Q' hn0 he0 hr0 => ?_) (le_of)
            obtain ⟨z, inn, acc⟩ := z
            obtain ⟨hz1, hal, hR⟩ := hz
            replace hz1 : z ≤ ks.length := hz1
            replace hal : acc.length = z := hal
            replace hR : acc ++ Tr.renK sfx lp num dn z (fun x => hasB1 x inn) (ks.drop z) = R := hR
            refine G_seq ?_
            refine g_region ?_
            refine sv rfl (y_lss) ?_
            refine GOps_nil ?_
            refine thn_normal ?_
            refine G_seq ?_
            refine g_cond (fun hb5 => ?_) (fun hb5 => ?_)
            ·
              have hlt : z < ks.length := by simpa using hb5
              obtain ⟨k, hk⟩ : ∃ k, ks[z]? = some k := ⟨_, List.getElem?_eq_getElem hlt⟩
              have hmem := List.mem_of_getElem? hk
              have hxa := Tr.ds_get hk
              have hkok := h5 k hmem
              have hksz := hkd k hmem
              have hks2 := Tr.size_mem hmem
              have hklg := hlgk k hmem
              obtain ⟨kop, knm, knu, kks⟩ := k
              have hka := Tr.d_mk kop knm knu kks
              rw [hka] at hxa
              have hknm : knm.size ≤ 300 := (long_kids hklg).1
              refine G_skip ?_
              refine thn_normal ?_
              refine G_seq ?_
              refine G_block ?_
              refine G_seq ?_
              refine g_region ?_
              refine sv rfl (y_move) ?_
              refine sv rfl (y_indexAddr Try.underlying22 sz24) ?_
              first | refine sv rfl (y_load_agg sz24 Try.underlying24 rfl) ?_ | refine sv rfl (y_loadp_agg (by exact sz24) Try.underlying24 rfl) ?_
              refine sv rfl (y_alloc zr24) ?_
              refine sv rfl (y_assign) ?_
              first | refine sa rfl (d_store sz24) ?_ | refine sa rfl (d_store_take sz24) ?_
              refine g_freeze 2 [[.d (.int .i64 op), .d (.str nmx), .d (.int .i64 num), .osl 4 (acc.map Tr.d)], [.d (.int .i64 0), .d (.str ⟨#[]⟩), .d (.int .i64 0), .nils]] (.agg [.int .i64 kop, .str knm, .int .i64 knu, .sl (kks.map Tr.d)]) rfl ?_
              refine GOps_nil ?_
              refine thn_normal ?_
              refine G_seq ?_
              refine G_block ?_
              refine G_seq ?_
              refine g_region ?_
              refine sv rfl (y_move) ?_
              refine sv rfl (y_move) ?_
              refine sv rfl (y_lss) ?_
              refine sv rfl (y_assign) ?_
              refine GOps_nil ?_
              refine thn_normal ?_
              refine g_cond (fun hb6 => ?_) (fun hb6 => ?_)
              ·
                have hin : lp = true ∧ (z : Int) < num := by
                  have h : (z : Int) < nmz := by simpa using hb6
                  cases lp with
                  | true => rw [if_pos rfl] at hnmz; exact ⟨rfl, by omega⟩
                  | false => rw [if_neg (by simp)] at hnmz; omega
                refine G_seq ?_
                refine g_region ?_
                first | refine sv rfl (y_load_agg sz24 Try.underlying24 rfl) ?_ | refine sv rfl (y_loadp_agg (by exact sz24) Try.underlying24 rfl) ?_
                refine g_call (xs := [.tmp 83]) rfl ((hka ▸ c66n _ (Tr.mk kop knm knu kks) (Nat.le_refl _) hkok (by omega))) ?_
                refine sv rfl (y_alloc zr24) ?_
                first | refine sa rfl (d_store sz24) ?_ | refine sa rfl (d_store_take sz24) ?_
                refine GOps_nil ?_
                refine thn_normal ?_
                refine G_seq_cut (α := ByteArray) (fun u => ⟨[(74, .d (.int .i64 (z : Nat))), (73, .d (.int .i64 ((ks.map Tr.d).length : Nat))), (72, .d (.sl (ks.map Tr.d))), (0, .d (renD sfx)), (4, .ref 0 0), (6, .ref 1 0), (8, .d (.sl (ks.map Tr.d))), (9, .d (.int .i64 nmz)), (11, .d (scopeD (inn.map (ent sfx)))), (14, .ref 2 0)], [[.d (.int .i64 op), .d (.str nmx), .d (.int .i64 num), .osl 4 (acc.map Tr.d)], [.d (.int .i64 0), .d (.str ⟨#[]⟩), .d (.int .i64 0), .nils]] ++ [[.d (.int .i64 kop), .d (.str u), .d (.int .i64 knu), .d (.sl (kks.map Tr.d))]]⟩) (fun u => u = if kop = 4 then knm ++ sfx else knm) (fun Q' hn he hr => ?_) (fun u hu => ?_)
                ·
                  refine G_seq ?_
                  refine g_keep [0, 1, 2, 4, 6, 7, 8, 9, 10, 11, 12, 13, 14, 15, 17, 72, 73, 74, 111, 112, 113] ?_
                  refine g_region ?_
                  first | refine sv rfl (y_fieldAddr Try.underlying24 rfl sz3) ?_ | refine sv rfl (y_fieldp_leaf Try.underlying24 rfl sz3) ?_
                  first | refine sv rfl (y_load_leaf Try.underlying3) ?_ | refine sv rfl (y_loadp_leaf Try.underlying3) ?_
                  refine sv rfl (y_eql) ?_
                  refine GOps_nil ?_
                  refine thn_normal ?_
                  refine g_cond (fun hb7 => ?_) (fun hb7 => ?_)
                  ·
                    have h4k : kop = 4 := by simpa using hb7
                    refine g_region ?_
                    refine sv rfl (y_move) ?_
                    first | refine sv rfl (y_fieldAddr Try.underlying24 rfl sz9) ?_ | refine sv rfl (y_fieldp_leaf Try.underlying24 rfl sz9) ?_
                    first | refine sv rfl (y_load_leaf Try.underlying9) ?_ | refine sv rfl (y_loadp_leaf Try.underlying9) ?_
                    refine g_call (xs := [.tmp 90]) rfl (c64 knm sfx (by simp only [lim]; omega)) ?_
                    first | refine sv rfl (y_fieldAddr Try.underlying24 rfl sz9) ?_ | refine sv rfl (y_fieldp_leaf Try.underlying24 rfl sz9) ?_
                    first | refine sa rfl (d_store sz9) ?_ | refine sa rfl (d_store_take sz9) ?_
                    refine GOps_nil ?_
                    refine hn _ (knm ++ sfx) (by rw [if_pos h4k]) le_of
                  ·
                    have h4k : ¬ kop = 4 := by simpa using hb7
                    refine G_skip ?_
                    refine hn _ knm (by rw [if_neg h4k]) le_of
                ·
                  have hacc : acc.map Tr.d ++ [.agg [.int .i64 kop, .str u, .int .i64 knu, .sl (kks.map Tr.d)]] = (acc ++ [(Tr.mk kop knm knu kks).nmd sfx]).map Tr.d := by
                    rw [List.map_append, List.map_cons, List.map_nil]
                    show _ = _ ++ [(Tr.mk kop (if kop = 4 then knm ++ sfx else knm) knu kks).d]
                    rw [Tr.d_mk, hu]
                  refine G_seq ?_
                  refine g_region ?_
                  first | refine sv rfl (y_fieldAddr Try.underlying24 rfl sz22) ?_ | refine sv rfl (y_fieldp_leaf Try.underlying24 rfl sz22) ?_
                  first | refine sv rfl (y_load_take Try.underlying22) ?_ | refine sv rfl (y_load_leaf Try.underlying22) ?_ | refine sv rfl (y_loadp_leaf Try.underlying22) ?_
                  first | refine sv rfl (y_load_agg sz24 Try.underlying24 rfl) ?_ | refine sv rfl (y_loadp_agg (by exact sz24) Try.underlying24 rfl) ?_
                  refine sv rfl (y_buildSlice (xs := [.tmp 95]) Try.underlying22 inf24 (hk := by intro x hx; rw [List.mem_singleton.1 hx]; first | exact Tr.d_cells _ | rfl)) ?_
                  refine sv rfl (y_append Try.underlying22 inf24 (hk := by intro x hx; rw [List.mem_singleton.1 hx]; first | exact Tr.d_cells _ | rfl) (hlen := by simp [lim]; omega) (hB := by simp [lim]; omega)) ?_
                  rw [hacc]
                  first | refine sv rfl (y_fieldAddr Try.underlying24 rfl sz22) ?_ | refine sv rfl (y_fieldp_leaf Try.underlying24 rfl sz22) ?_
                  first | refine sa rfl (d_store sz22) ?_ | refine sa rfl (d_store_take sz22) ?_
                  refine GOps_nil ?_
                  refine thn_normal ?_
                  refine G_exit ?_
                  refine blk_other (by decide) ?_
                  refine thn_exit ?_
                  refine blk_exit ?_
                  refine thn_normal ?_
                  refine g_region ?_
                  refine sv rfl (y_add) ?_
                  refine sv rfl (y_move) ?_
                  refine GOps_nil ?_
                  refine hn0 _ (z + 1, inn, acc ++ [(Tr.mk kop knm knu kks).nmd sfx]) ⟨by show z + 1 ≤ ks.length; omega, by show (acc ++ [_]).length = z + 1; rw [List.length_append, hal]; rfl, by show (acc ++ [_]) ++ Tr.renK sfx lp num dn (z + 1) _ (ks.drop (z + 1)) = R; rw [← hR, List.append_assoc]; congr 1; rw [Tr.renK_name hk hin]; rfl⟩ (by show ks.length - (z + 1) < ks.length - z; omega) le_of
              ·
                have hni : ¬ (lp = true ∧ (z : Int) < num) := by
                  rintro ⟨e, h⟩
                  rw [e, if_pos rfl] at hnmz
                  have : ¬ (z : Int) < nmz := by simpa using hb6
                  omega
                refine G_seq ?_
                refine g_region ?_
                refine sv rfl (y_move) ?_
                refine sv rfl (y_gtr) ?_
                refine sv rfl (y_move) ?_
                refine sg rfl (fun hg => q_move) ?_
                refine sg rfl (fun hg => q_move) ?_
                refine sg rfl (fun hg => strip 104 (by simp only [GS.set, GS.get, List.lookup_cons, Nat.reduceBEq] <;> rfl) hg (q_add)) ?_
                refine sg rfl (fun hg => strip 105 (by simp only [GS.set, GS.get, List.lookup_cons, Nat.reduceBEq] <;> rfl) hg (strip 103 (by simp only [GS.set, GS.get, List.lookup_cons, Nat.reduceBEq] <;> rfl) hg (q_eql))) ?_
                refine sv rfl (y_and) ?_
                refine sv rfl (y_assign) ?_
                refine GOps_nil ?_
                refine thn_normal ?_
                refine g_cond (fun hb8 => ?_) (fun hb8 => ?_)
                ·
                  obtain ⟨hbd1, hbd2⟩ : nmz > 0 ∧ (z : Int) = nmz + 1 := by simpa using hb8
                  have hbd : lp = true ∧ (z : Int) = num + 1 := by
                    cases lp with
                    | true => rw [if_pos rfl] at hnmz; exact ⟨rfl, by omega⟩
                    | false => rw [if_neg (by simp)] at hnmz; omega
                  have hnum : nmz = num := by rw [hbd.1, if_pos rfl] at hnmz; exact hnmz
                  refine G_seq ?_
                  refine g_keep [0, 1, 2, 4, 6, 7, 8, 9, 10, 11, 12, 13, 14, 15, 17, 72, 73, 74, 111, 112, 113] ?_
                  refine g_region ?_
                  refine sv rfl (y_move) ?_
                  refine sv rfl (y_assign) ?_
                  refine GOps_nil ?_
                  refine thn_normal ?_
                  refine G_seq ?_
                  refine G_seq ?_
                  refine g_region ?_
                  refine sv rfl (y_move) ?_
                  refine sv rfl (y_move) ?_
                  refine sv rfl (Yld_pure rfl (of_decide_eq_true rfl) (q_sliceh Try.underlying22 sz24 (Tr.ds_cells ks) (ys := (ks.take nmz.toNat).map Tr.d) (hy := by rw [List.map_take]))) ?_
                  refine sv rfl (y_len Try.underlying22) ?_
                  refine sv rfl (y_move) ?_
                  refine GOps_nil ?_
                  refine thn_normal ?_
                  refine G_block ?_
                  refine g_loop (α := Nat × List ByteArray) (fun y => ⟨[(113, .d (.int .i64 (y.1 : Nat))), (112, .d (.int .i64 (((ks.take nmz.toNat).map Tr.d).length : Nat))), (111, .d (.sl ((ks.take nmz.toNat).map Tr.d))), (15, .d (scopeD (y.2.map (ent sfx)))), (74, .d (.int .i64 (z : Nat))), (73, .d (.int .i64 ((ks.map Tr.d).length : Nat))), (72, .d (.sl (ks.map Tr.d))), (0, .d (renD sfx)), (4, .ref 0 0), (6, .ref 1 0), (8, .d (.sl (ks.map Tr.d))), (9, .d (.int .i64 nmz)), (11, .d (scopeD (inn.map (ent sfx)))), (13, .d (.ptr (.agg [.int .i64 kop, .str knm, .int .i64 knu, .sl (kks.map Tr.d)])))], [[.d (.int .i64 op), .d (.str nmx), .d (.int .i64 num), .osl 4 (acc.map Tr.d)], [.d (.int .i64 0), .d (.str ⟨#[]⟩), .d (.int .i64 0), .nils]]⟩) (fun y => (ks.take nmz.toNat).length - y.1) (fun y => y.1 ≤ (ks.take nmz.toNat).length ∧ y.2 = (loopNames ((ks.take nmz.toNat).take y.1)).reverse ++ inn) (0, inn) ⟨Nat.zero_le _, rfl⟩ (fun y hy Q' hn1 he1 hr1 => ?_) (le_of)
                  obtain ⟨y, use⟩ := y
                  obtain ⟨hy1, hy2⟩ := hy
                  replace hy1 : y ≤ (ks.take nmz.toNat).length := hy1
                  replace hy2 : use = (loopNames ((ks.take nmz.toNat).take y)).reverse ++ inn := hy2
                  have hy3 : (ks.take nmz.toNat).length ≤ ks.length := by rw [List.length_take]; omega
                  refine G_seq ?_
                  refine g_region ?_
                  refine sv rfl (y_lss) ?_
                  refine GOps_nil ?_
                  refine thn_normal ?_
                  refine G_seq ?_
                  refine g_cond (fun hb9 => ?_) (fun hb9 => ?_)
                  ·
                    have hlt1 : y < (ks.take nmz.toNat).length := by simpa using hb9
                    obtain ⟨q, hq⟩ : ∃ q, (ks.take nmz.toNat)[y]? = some q := ⟨_, List.getElem?_eq_getElem hlt1⟩
                    have hqa := Tr.ds_get hq
                    have hqlg := hlgk q (List.mem_of_mem_take (List.mem_of_getElem? hq))
                    obtain ⟨qop, qnm, qnu, qks⟩ := q
                    rw [Tr.d_mk] at hqa
                    have hqnm : qnm.size ≤ 300 := (long_kids hqlg).1
                    refine G_skip ?_
                    refine thn_normal ?_
                    refine G_seq ?_
                    refine G_block ?_
                    refine G_seq ?_
                    refine g_region ?_
                    refine sv rfl (y_indexAddr Try.underlying22 sz24) ?_
                    first | refine sv rfl (y_load_agg sz24 Try.underlying24 rfl) ?_ | refine sv rfl (y_loadp_agg (by exact sz24) Try.underlying24 rfl) ?_
                    refine sv rfl (y_alloc zr24) ?_
                    first | refine sa rfl (d_store sz24) ?_ | refine sa rfl (d_store_take sz24) ?_
                    refine g_freeze 2 [[.d (.int .i64 op), .d (.str nmx), .d (.int .i64 num), .osl 4 (acc.map Tr.d)], [.d (.int .i64 0), .d (.str ⟨#[]⟩), .d (.int .i64 0), .nils]] (.agg [.int .i64 qop, .str qnm, .int .i64 qnu, .sl (qks.map Tr.d)]) rfl ?_
                    refine GOps_nil ?_
                    refine thn_normal ?_
                    refine G_seq ?_
                    refine g_region ?_
                    first | refine sv rfl (y_fieldAddr Try.underlying24 rfl sz3) ?_ | refine sv rfl (y_fieldp_leaf Try.underlying24 rfl sz3) ?_
                    first | refine sv rfl (y_load_leaf Try.underlying3) ?_ | refine sv rfl (y_loadp_leaf Try.underlying3) ?_
                    refine sv rfl (y_eql) ?_
                    refine GOps_nil ?_
                    refine thn_normal ?_
                    refine g_cond (fun hb10 => ?_) (fun hb10 => ?_)
                    ·
                      have h4q : qop = 4 := by simpa using hb10
                      refine g_region ?_
                      refine sv rfl (y_move) ?_
                      refine sv rfl (y_move) ?_
                      first | refine sv rfl (y_fieldAddr Try.underlying24 rfl sz9) ?_ | refine sv rfl (y_fieldp_leaf Try.underlying24 rfl sz9) ?_
                      first | refine sv rfl (y_load_leaf Try.underlying9) ?_ | refine sv rfl (y_loadp_leaf Try.underlying9) ?_
                      refine g_call (xs := [.tmp 120, .tmp 121, .tmp 123]) rfl (c69 sfx qnm use (by simp only [lim]; omega)) ?_
                      refine sv rfl (y_assign) ?_
                      refine GOps_nil ?_
                      refine blk_normal ?_
                      refine thn_normal ?_
                      refine g_keep [0, 1, 2, 4, 6, 7, 8, 9, 10, 11, 12, 13, 14, 15, 17, 72, 73, 74, 111, 112, 113] ?_
                      refine g_region ?_
                      refine sv rfl (y_add) ?_
                      refine sv rfl (y_move) ?_
                      refine GOps_nil ?_
                      refine hn1 _ (y + 1, qnm :: use) ⟨by show y + 1 ≤ _; omega, by show qnm :: use = _; rw [loopNames_step hq, hy2]; show _ = (_ ++ (if qop = 4 then [qnm] else [])).reverse ++ inn; rw [if_pos h4q]; simp⟩ (by show _ - (y + 1) < _ - y; omega) le_of
                    ·
                      have h4q : ¬ qop = 4 := by simpa using hb10
                      refine G_skip ?_
                      refine blk_normal ?_
                      refine thn_normal ?_
                      refine g_region ?_
                      refine sv rfl (y_add) ?_
                      refine sv rfl (y_move) ?_
                      refine GOps_nil ?_
                      refine hn1 _ (y + 1, use) ⟨by show y + 1 ≤ _; omega, by show use = _; rw [loopNames_step hq, hy2]; show _ = (_ ++ (if qop = 4 then [qnm] else [])).reverse ++ inn; rw [if_neg h4q]; simp⟩ (by show _ - (y + 1) < _ - y; omega) le_of
                  ·
                    have hge1 : y = (ks.take nmz.toNat).length := by
                      have : ¬ (y : Int) < ((ks.take nmz.toNat).map Tr.d).length := by simpa using hb9
                      rw [List.length_map] at this
                      omega
                    have huse : use = dn.reverse ++ inn := by rw [hy2, hge1, List.take_length, hnum, hdn]
                    clear hy2
                    subst huse
                    refine G_exit ?_
                    refine thn_exit ?_
                    refine he1 _ _ ?_
                    refine blk_exit ?_
                    refine thn_normal ?_
                    refine G_seq ?_
                    refine G_drawB 10 rfl (by kernel_rfl) (fun S1 O1 w1 m1 hm1 hm2 => ?_)
                    have hB1 : ∀ i, i < m1.length → (List.range m1.length).contains i = true := fun i hi => by simpa using hi
                    first | refine bq 0 hB1 rfl (q_fieldAddr Try.underlying24 rfl sz22) ?_ | refine bq 0 hB1 rfl (q_fieldp_leaf Try.underlying24 rfl sz22) ?_
                    refine bq 2 hB1 rfl (q_move) ?_
                    first | refine bq 3 hB1 rfl (q_load_agg sz24 Try.underlying24 rfl) ?_ | refine bq 3 hB1 rfl (q_loadp_agg (by exact sz24) Try.underlying24 rfl) ?_
                    refine bq 4 hB1 rfl (q_move) ?_
                    refine GB_go ?_
                    refine ga2 1 5 ?_ ?_
                    ·
                      first | refine sv rfl (y_load_take Try.underlying22) ?_ | refine sv rfl (y_load_leaf Try.underlying22) ?_ | refine sv rfl (y_loadp_leaf Try.underlying22) ?_
                      refine GOps_nil ⟨rfl, ?_⟩
                      refine ga1 5 ?_
                      refine g_call (xs := [.tmp 128, .tmp 129, .tmp 130]) rfl ((hka ▸ ih (Tr.mk kop knm knu kks) hksz hkok (by omega) hklg (dn.reverse ++ inn))) ?_
                      refine GOps_nil ⟨rfl, ?_⟩
                      refine ga1 6 ?_
                      refine sv rfl (y_buildSlice (xs := [.tmp 131]) Try.underlying22 inf24 (hk := by intro x hx; rw [List.mem_singleton.1 hx]; first | exact Tr.d_cells _ | rfl)) ?_
                      refine GOps_nil ⟨rfl, ?_⟩
                      refine ga1 7 ?_
                      refine sv rfl (y_append Try.underlying22 inf24 (hk := by intro x hx; rw [List.mem_singleton.1 hx]; first | exact Tr.d_cells _ | rfl) (hlen := by simp [lim]; omega) (hB := by simp [lim]; omega)) ?_
                      rw [acc_snoc]
                      refine GOps_nil ⟨rfl, ?_⟩
                      refine ga1 8 ?_
                      first | refine sv rfl (y_fieldAddr Try.underlying24 rfl sz22) ?_ | refine sv rfl (y_fieldp_leaf Try.underlying24 rfl sz22) ?_
                      refine GOps_nil ⟨rfl, ?_⟩
                      refine ga1 9 ?_
                      first | refine sa rfl (d_store sz22) ?_ | refine sa rfl (d_store_take sz22) ?_
                      refine GOps_nil ⟨rfl, ?_⟩
                      refine GA_done (by kernel_rfl) ?_
                      refine thn_normal ?_
                      refine G_exit ?_
                      refine blk_other (by decide) ?_
                      refine thn_exit ?_
                      refine blk_exit ?_
                      refine thn_normal ?_
                      refine g_region ?_
                      refine sv rfl (y_add) ?_
                      refine sv rfl (y_move) ?_
                      refine GOps_nil ?_
                      refine hn0 _ (z + 1, inn, acc ++ [(Tr.mk kop knm knu kks).ren sfx (fun x => hasB1 x (dn.reverse ++ inn))]) ⟨by show z + 1 ≤ ks.length; omega, by show (acc ++ [_]).length = z + 1; rw [List.length_append, hal]; rfl, by show (acc ++ [_]) ++ Tr.renK sfx lp num dn (z + 1) _ (ks.drop (z + 1)) = R; rw [← hR, List.append_assoc]; congr 1; rw [Tr.renK_body hk hbd, has_rev]; rfl⟩ (by show ks.length - (z + 1) < ks.length - z; omega) le_of
                    ·
                      refine g_call (xs := [.tmp 128, .tmp 129, .tmp 130]) rfl ((hka ▸ ih (Tr.mk kop knm knu kks) hksz hkok (by omega) hklg (dn.reverse ++ inn))) ?_
                      refine GOps_nil ⟨rfl, ?_⟩
                      refine ga2 1 6 ?_ ?_
                      ·
                        first | refine sv rfl (y_load_take Try.underlying22) ?_ | refine sv rfl (y_load_leaf Try.underlying22) ?_ | refine sv rfl (y_loadp_leaf Try.underlying22) ?_
                        refine GOps_nil ⟨rfl, ?_⟩
                        refine ga1 6 ?_
                        refine sv rfl (y_buildSlice (xs := [.tmp 131]) Try.underlying22 inf24 (hk := by intro x hx; rw [List.mem_singleton.1 hx]; first | exact Tr.d_cells _ | rfl)) ?_
                        refine GOps_nil ⟨rfl, ?_⟩
                        refine ga1 7 ?_
                        refine sv rfl (y_append Try.underlying22 inf24 (hk := by intro x hx; rw [List.mem_singleton.1 hx]; first | exact Tr.d_cells _ | rfl) (hlen := by simp [lim]; omega) (hB := by simp [lim]; omega)) ?_
                        rw [acc_snoc]
                        refine GOps_nil ⟨rfl, ?_⟩
                        refine ga1 8 ?_
                        first | refine sv rfl (y_fieldAddr Try.underlying24 rfl sz22) ?_ | refine sv rfl (y_fieldp_leaf Try.underlying24 rfl sz22) ?_
                        refine GOps_nil ⟨rfl, ?_⟩
                        refine ga1 9 ?_
                        first | refine sa rfl (d_store sz22) ?_ | refine sa rfl (d_store_take sz22) ?_
                        refine GOps_nil ⟨rfl, ?_⟩
                        refine GA_done (by kernel_rfl) ?_
                        refine thn_normal ?_
                        refine G_exit ?_
                        refine blk_other (by decide) ?_
                        refine thn_exit ?_
                        refine blk_exit ?_
                        refine thn_normal ?_
                        refine g_region ?_
                        refine sv rfl (y_add) ?_
                        refine sv rfl (y_move) ?_
                        refine GOps_nil ?_
                        refine hn0 _ (z + 1, inn, acc ++ [(Tr.mk kop knm knu kks).ren sfx (fun x => hasB1 x (dn.reverse ++ inn))]) ⟨by show z + 1 ≤ ks.length; omega, by show (acc ++ [_]).length = z + 1; rw [List.length_append, hal]; rfl, by show (acc ++ [_]) ++ Tr.renK sfx lp num dn (z + 1) _ (ks.drop (z + 1)) = R; rw [← hR, List.append_assoc]; congr 1; rw [Tr.renK_body hk hbd, has_rev]; rfl⟩ (by show ks.length - (z + 1) < ks.length - z; omega) le_of
                      ·
                        refine sv rfl (y_buildSlice (xs := [.tmp 131]) Try.underlying22 inf24 (hk := by intro x hx; rw [List.mem_singleton.1 hx]; first | exact Tr.d_cells _ | rfl)) ?_
                        refine GOps_nil ⟨rfl, ?_⟩
                        refine ga1 1 ?_
                        first | refine sv rfl (y_load_take Try.underlying22) ?_ | refine sv rfl (y_load_leaf Try.underlying22) ?_ | refine sv rfl (y_loadp_leaf Try.underlying22) ?_
                        refine GOps_nil ⟨rfl, ?_⟩
                        refine ga1 7 ?_
                        refine sv rfl (y_append Try.underlying22 inf24 (hk := by intro x hx; rw [List.mem_singleton.1 hx]; first | exact Tr.d_cells _ | rfl) (hlen := by simp [lim]; omega) (hB := by simp [lim]; omega)) ?_
                        rw [acc_snoc]
                        refine GOps_nil ⟨rfl, ?_⟩
                        refine ga1 8 ?_
                        first | refine sv rfl (y_fieldAddr Try.underlying24 rfl sz22) ?_ | refine sv rfl (y_fieldp_leaf Try.underlying24 rfl sz22) ?_
                        refine GOps_nil ⟨rfl, ?_⟩
                        refine ga1 9 ?_
                        first | refine sa rfl (d_store sz22) ?_ | refine sa rfl (d_store_take sz22) ?_
                        refine GOps_nil ⟨rfl, ?_⟩
                        refine GA_done (by kernel_rfl) ?_
                        refine thn_normal ?_
                        refine G_exit ?_
                        refine blk_other (by decide) ?_
                        refine thn_exit ?_
                        refine blk_exit ?_
                        refine thn_normal ?_
                        refine g_region ?_
                        refine sv rfl (y_add) ?_
                        refine sv rfl (y_move) ?_
                        refine GOps_nil ?_
                        refine hn0 _ (z + 1, inn, acc ++ [(Tr.mk kop knm knu kks).ren sfx (fun x => hasB1 x (dn.reverse ++ inn))]) ⟨by show z + 1 ≤ ks.length; omega, by show (acc ++ [_]).length = z + 1; rw [List.length_append, hal]; rfl, by show (acc ++ [_]) ++ Tr.renK sfx lp num dn (z + 1) _ (ks.drop (z + 1)) = R; rw [← hR, List.append_assoc]; congr 1; rw [Tr.renK_body hk hbd, has_rev]; rfl⟩ (by show ks.length - (z + 1) < ks.length - z; omega) le_of
                ·
                  have hnb : lp = true ∧ (z : Int) = num + 1 → dn = [] := by
                    rintro ⟨e1, e2⟩
                    have hl := hlpn e1
                    rw [e1, if_pos rfl] at hnmz
                    have h0 : num = 0 := Classical.byContradiction fun hne => by
                      have h8 : ¬ (nmz > 0 ∧ (z : Int) = nmz + 1) := fun ⟨a, b⟩ => by simp [a, b] at hb8
                      exact h8 ⟨by omega, by omega⟩
                    rw [← hdn, h0]; rfl
                  refine G_skip ?_
                  refine blk_normal ?_
                  refine thn_normal ?_
                  refine G_seq_cut (α := Unit) (fun u => ⟨[(74, .d (.int .i64 (z : Nat))), (73, .d (.int .i64 ((ks.map Tr.d).length : Nat))), (72, .d (.sl (ks.map Tr.d))), (0, .d (renD sfx)), (4, .ref 0 0), (6, .ref 1 0), (8, .d (.sl (ks.map Tr.d))), (9, .d (.int .i64 nmz)), (11, .d (scopeD (inn.map (ent sfx)))), (12, .d (.int .i64 (z : Nat))), (13, .d (.ptr (.agg [.int .i64 kop, .str knm, .int .i64 knu, .sl (kks.map Tr.d)])))], [[.d (.int .i64 op), .d (.str nmx), .d (.int .i64 num), .osl 4 ((acc ++ [(Tr.mk kop knm knu kks).ren sfx (fun x => hasB1 x inn)]).map Tr.d)], [.d (.int .i64 0), .d (.str ⟨#[]⟩), .d (.int .i64 0), .nils]]⟩) (fun u => True) (fun Q' hn he hr => ?_) (fun u hu => ?_)
                  ·
                    refine g_keep [0, 1, 2, 4, 6, 7, 8, 9, 10, 11, 12, 13, 14, 15, 17, 72, 73, 74, 111, 112, 113] ?_
                    refine G_drawB 10 rfl (by kernel_rfl) (fun S1 O1 w1 m1 hm1 hm2 => ?_)
                    have hB1 : ∀ i, i < m1.length → (List.range m1.length).contains i = true := fun i hi => by simpa using hi
                    first | refine bq 0 hB1 rfl (q_fieldAddr Try.underlying24 rfl sz22) ?_ | refine bq 0 hB1 rfl (q_fieldp_leaf Try.underlying24 rfl sz22) ?_
                    refine bq 2 hB1 rfl (q_move) ?_
                    first | refine bq 3 hB1 rfl (q_load_agg sz24 Try.underlying24 rfl) ?_ | refine bq 3 hB1 rfl (q_loadp_agg (by exact sz24) Try.underlying24 rfl) ?_
                    refine bq 4 hB1 rfl (q_move) ?_
                    refine GB_go ?_
                    refine ga2 1 5 ?_ ?_
                    ·
                      first | refine sv rfl (y_load_take Try.underlying22) ?_ | refine sv rfl (y_load_leaf Try.underlying22) ?_ | refine sv rfl (y_loadp_leaf Try.underlying22) ?_
                      refine GOps_nil ⟨rfl, ?_⟩
                      refine ga1 5 ?_
                      refine g_call (xs := [.tmp 137, .tmp 138, .tmp 139]) rfl ((hka ▸ ih (Tr.mk kop knm knu kks) hksz hkok (by omega) hklg inn)) ?_
                      refine GOps_nil ⟨rfl, ?_⟩
                      refine ga1 6 ?_
                      refine sv rfl (y_buildSlice (xs := [.tmp 140]) Try.underlying22 inf24 (hk := by intro x hx; rw [List.mem_singleton.1 hx]; first | exact Tr.d_cells _ | rfl)) ?_
                      refine GOps_nil ⟨rfl, ?_⟩
                      refine ga1 7 ?_
                      refine sv rfl (y_append Try.underlying22 inf24 (hk := by intro x hx; rw [List.mem_singleton.1 hx]; first | exact Tr.d_cells _ | rfl) (hlen := by simp [lim]; omega) (hB := by simp [lim]; omega)) ?_
                      rw [acc_snoc]
                      refine GOps_nil ⟨rfl, ?_⟩
                      refine ga1 8 ?_
                      first | refine sv rfl (y_fieldAddr Try.underlying24 rfl sz22) ?_ | refine sv rfl (y_fieldp_leaf Try.underlying24 rfl sz22) ?_
                      refine GOps_nil ⟨rfl, ?_⟩
                      refine ga1 9 ?_
                      first | refine sa rfl (d_store sz22) ?_ | refine sa rfl (d_store_take sz22) ?_
                      refine GOps_nil ⟨rfl, ?_⟩
                      refine GA_done (by kernel_rfl) ?_
                      refine hn _ () trivial le_of
                    ·
                      refine g_call (xs := [.tmp 137, .tmp 138, .tmp 139]) rfl ((hka ▸ ih (Tr.mk kop knm knu kks) hksz hkok (by omega) hklg inn)) ?_
                      refine GOps_nil ⟨rfl, ?_⟩
                      refine ga2 1 6 ?_ ?_
                      ·
                        first | refine sv rfl (y_load_take Try.underlying22) ?_ | refine sv rfl (y_load_leaf Try.underlying22) ?_ | refine sv rfl (y_loadp_leaf Try.underlying22) ?_
                        refine GOps_nil ⟨rfl, ?_⟩
                        refine ga1 6 ?_
                        refine sv rfl (y_buildSlice (xs := [.tmp 140]) Try.underlying22 inf24 (hk := by intro x hx; rw [List.mem_singleton.1 hx]; first | exact Tr.d_cells _ | rfl)) ?_
                        refine GOps_nil ⟨rfl, ?_⟩
                        refine ga1 7 ?_
                        refine sv rfl (y_append Try.underlying22 inf24 (hk := by intro x hx; rw [List.mem_singleton.1 hx]; first | exact Tr.d_cells _ | rfl) (hlen := by simp [lim]; omega) (hB := by simp [lim]; omega)) ?_
                        rw [acc_snoc]
                        refine GOps_nil ⟨rfl, ?_⟩
                        refine ga1 8 ?_
                        first | refine sv rfl (y_fieldAddr Try.underlying24 rfl sz22) ?_ | refine sv rfl (y_fieldp_leaf Try.underlying24 rfl sz22) ?_
                        refine GOps_nil ⟨rfl, ?_⟩
                        refine ga1 9 ?_
                        first | refine sa rfl (d_store sz22) ?_ | refine sa rfl (d_store_take sz22) ?_
                        refine GOps_nil ⟨rfl, ?_⟩
                        refine GA_done (by kernel_rfl) ?_
                        refine hn _ () trivial le_of
                      ·
                        refine sv rfl (y_buildSlice (xs := [.tmp 140]) Try.underlying22 inf24 (hk := by intro x hx; rw [List.mem_singleton.1 hx]; first | exact Tr.d_cells _ | rfl)) ?_
                        refine GOps_nil ⟨rfl, ?_⟩
                        refine ga1 1 ?_
                        first | refine sv rfl (y_load_take Try.underlying22) ?_ | refine sv rfl (y_load_leaf Try.underlying22) ?_ | refine sv rfl (y_loadp_leaf Try.underlying22) ?_
                        refine GOps_nil ⟨rfl, ?_⟩
                        refine ga1 7 ?_
                        refine sv rfl (y_append Try.underlying22 inf24 (hk := by intro x hx; rw [List.mem_singleton.1 hx]; first | exact Tr.d_cells _ | rfl) (hlen := by simp [lim]; omega) (hB := by simp [lim]; omega)) ?_
                        rw [acc_snoc]
                        refine GOps_nil ⟨rfl, ?_⟩
                        refine ga1 8 ?_
                        first | refine sv rfl (y_fieldAddr Try.underlying24 rfl sz22) ?_ | refine sv rfl (y_fieldp_leaf Try.underlying24 rfl sz22) ?_
                        refine GOps_nil ⟨rfl, ?_⟩
                        refine ga1 9 ?_
                        first | refine sa rfl (d_store sz22) ?_ | refine sa rfl (d_store_take sz22) ?_
                        refine GOps_nil ⟨rfl, ?_⟩
                        refine GA_done (by kernel_rfl) ?_
                        refine hn _ () trivial le_of
                  ·
                    skip
                    refine G_seq ?_
                    refine g_region ?_
                    first | refine sv rfl (y_fieldAddr Try.underlying24 rfl sz3) ?_ | refine sv rfl (y_fieldp_leaf Try.underlying24 rfl sz3) ?_
                    first | refine sv rfl (y_load_leaf Try.underlying3) ?_ | refine sv rfl (y_loadp_leaf Try.underlying3) ?_
                    refine sv rfl (y_eql) ?_
                    refine sv rfl (y_move) ?_
                    first | refine sg rfl (fun hg => q_load_agg sz24 Try.underlying24 rfl) ?_ | refine sg rfl (fun hg => q_loadp_agg (by exact sz24) Try.underlying24 rfl) ?_
                    refine sg rfl (fun hg => q_move) ?_
                    refine g_callg (xs := [.tmp 148, .tmp 149]) rfl (fun hg => c68 op num nmx ((acc ++ [(Tr.mk kop knm knu kks).ren sfx (fun x => hasB1 x inn)]).map Tr.d) (ks.map Tr.d)) ?_
                    refine g_callg (xs := [.tmp 150]) rfl (fun hg => (by have := c67 op num nmx (ks.map Tr.d); rwa [List.length_map] at this)) ?_
                    refine sg rfl (fun hg => strip 151 (by simp only [GS.set, GS.get, List.lookup_cons, Nat.reduceBEq] <;> rfl) hg (q_move)) ?_
                    refine sg rfl (fun hg => q_move) ?_
                    first | refine sg rfl (fun hg => q_fieldAddr Try.underlying24 rfl sz3) ?_ | refine sg rfl (fun hg => q_fieldp_leaf Try.underlying24 rfl sz3) ?_
                    first | refine sg rfl (fun hg => strip 154 (by simp only [GS.set, GS.get, List.lookup_cons, Nat.reduceBEq] <;> rfl) hg (q_load_leaf Try.underlying3)) ?_ | refine sg rfl (fun hg => strip 154 (by simp only [GS.set, GS.get, List.lookup_cons, Nat.reduceBEq] <;> rfl) hg (q_loadp_leaf Try.underlying3)) ?_
                    refine sg rfl (fun hg => strip 155 (by simp only [GS.set, GS.get, List.lookup_cons, Nat.reduceBEq] <;> rfl) hg (q_add)) ?_
                    refine sg rfl (fun hg => strip 156 (by simp only [GS.set, GS.get, List.lookup_cons, Nat.reduceBEq] <;> rfl) hg (strip 153 (by simp only [GS.set, GS.get, List.lookup_cons, Nat.reduceBEq] <;> rfl) hg (q_eql))) ?_
                    refine sg rfl (fun hg => strip 152 (by simp only [GS.set, GS.get, List.lookup_cons, Nat.reduceBEq] <;> rfl) hg (q_and)) ?_
                    refine sg rfl (fun hg => strip 158 (by simp only [GS.set, GS.get, List.lookup_cons, Nat.reduceBEq] <;> rfl) hg (q_not)) ?_
                    refine sv rfl (y_and) ?_
                    refine GOps_nil ?_
                    refine thn_normal ?_
                    refine g_cond (fun hb11 => ?_) (fun hb11 => ?_)
                    ·
                      have h50k : kop = 50 ∧ ¬ (lp = true ∧ (z : Int) = num + 1) := by
                        rw [hlp] at hb11
                        cases lp with
                        | false => simp at hb11; exact ⟨hb11, by simp⟩
                        | true =>
                          have hw : IntKind.i64.wrap (num + 1) = num + 1 := wrap_add (by have := hlpn rfl; omega) (by have := hlpn rfl; omega)
                          rw [hw] at hb11
                          simp at hb11
                          exact ⟨hb11.1, fun h => hb11.2 h.2⟩
                      refine g_keep [0, 1, 2, 4, 6, 7, 8, 9, 10, 11, 12, 13, 14, 15, 17, 72, 73, 74, 111, 112, 113] ?_
                      refine g_region ?_
                      refine sv rfl (y_move) ?_
                      refine sv rfl (y_move) ?_
                      first | refine sv rfl (y_fieldAddr Try.underlying24 rfl sz9) ?_ | refine sv rfl (y_fieldp_leaf Try.underlying24 rfl sz9) ?_
                      first | refine sv rfl (y_load_leaf Try.underlying9) ?_ | refine sv rfl (y_loadp_leaf Try.underlying9) ?_
                      refine g_call (xs := [.tmp 161, .tmp 162, .tmp 164]) rfl (c69 sfx knm inn (by simp only [lim]; omega)) ?_
                      refine sv rfl (y_assign) ?_
                      refine GOps_nil ?_
                      refine blk_normal ?_
                      refine thn_normal ?_
                      refine g_region ?_
                      refine sv rfl (y_add) ?_
                      refine sv rfl (y_move) ?_
                      refine GOps_nil ?_
                      refine hn0 _ (z + 1, knm :: inn, acc ++ [(Tr.mk kop knm knu kks).ren sfx (fun x => hasB1 x inn)]) ⟨by show z + 1 ≤ ks.length; omega, by show (acc ++ [_]).length = z + 1; rw [List.length_append, hal]; rfl, by show (acc ++ [_]) ++ Tr.renK sfx lp num dn (z + 1) _ (ks.drop (z + 1)) = R; rw [← hR, List.append_assoc]; congr 1; rw [Tr.renK_other hk hni h50k.2, has_cons]; show _ = _ :: Tr.renK sfx lp num dn (z + 1) (if kop = 50 then _ else _) _; rw [if_pos h50k.1]; rfl⟩ (by show ks.length - (z + 1) < ks.length - z; omega) le_of
                    ·
                      have h50k : kop = 50 → lp = true ∧ (z : Int) = num + 1 := by
                        intro e
                        rw [hlp, e] at hb11
                        cases lp with
                        | false => simp at hb11
                        | true =>
                          have hw : IntKind.i64.wrap (num + 1) = num + 1 := wrap_add (by have := hlpn rfl; omega) (by have := hlpn rfl; omega)
                          rw [hw] at hb11
                          simp at hb11
                          exact ⟨rfl, hb11⟩
                      refine G_skip ?_
                      refine blk_normal ?_
                      refine thn_normal ?_
                      refine g_keep [0, 1, 2, 4, 6, 7, 8, 9, 10, 11, 12, 13, 14, 15, 17, 72, 73, 74, 111, 112, 113] ?_
                      refine g_region ?_
                      refine sv rfl (y_add) ?_
                      refine sv rfl (y_move) ?_
                      refine GOps_nil ?_
                      refine hn0 _ (z + 1, inn, acc ++ [(Tr.mk kop knm knu kks).ren sfx (fun x => hasB1 x inn)]) ⟨by show z + 1 ≤ ks.length; omega, by show (acc ++ [_]).length = z + 1; rw [List.length_append, hal]; rfl, by show (acc ++ [_]) ++ Tr.renK sfx lp num dn (z + 1) _ (ks.drop (z + 1)) = R; rw [← hR, List.append_assoc]; congr 1; rw [renK_stay hk hni h50k hnb]; rfl⟩ (by show ks.length - (z + 1) < ks.length - z; omega) le_of
            ·
              have hge : z = ks.length := by
                have : ¬ (z : Int) < (ks.map Tr.d).length := by simpa using hb5
                rw [List.length_map] at this
                omega
              have hRR : acc = R := by rw [← hR, hge, List.drop_length, Tr.renK, List.append_nil]
              refine G_exit ?_
              refine thn_exit ?_
              refine he0 _ _ ?_
              refine blk_exit ?_
              refine thn_normal ?_
              refine G_seq ?_
              refine g_region ?_
              first | refine sv rfl (y_load_agg sz24 Try.underlying24 rfl) ?_ | refine sv rfl (y_loadp_agg (by exact sz24) Try.underlying24 rfl) ?_
              first | refine sa rfl (d_store sz24) ?_ | refine sa rfl (d_store_take sz24) ?_
              refine GOps_nil ?_
              refine thn_normal ?_
              refine G_ret ?_
              refine findc sz24 Try.underlying24 (by simp) ?_
              exact ⟨by rw [Tr.ren_other hv, Tr.d_mk, hlp, hdn, hRe, hRR, hnmx], rfl⟩

end Go.Proofs.Ytphfdmagkgpgfaa
