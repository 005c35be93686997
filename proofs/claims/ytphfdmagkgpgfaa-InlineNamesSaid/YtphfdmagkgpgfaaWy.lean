/- Contracts of functions. Conditions: none. -/
import Derived.Test.YtphfdmagkgpgfaaWx
namespace Go.Proofs.Ytphfdmagkgpgfaa
open Go Go.Proofs.Ytphfdmagkgpgfaa.E

mutual
theorem Tr.ren_ok {sfx : ByteArray} (hs : sfx.size ≤ 1000000) : ∀ (t : Tr) (vis : ByteArray → Bool), t.Ok → t.long = false → (t.ren sfx vis).Ok
  | .mk op nm num ks, vis, hok, hl => by
    obtain ⟨hn, hk⟩ := long_kids hl
    have hsz : (nm ++ sfx).size ≤ 140737488355328 := by rw [ByteArray.size_append]; omega
    cases hok with | mk h1 h2 h3 h4 h5 =>
    by_cases hv : op = 4 ∧ vis nm = true
    · rw [Tr.ren_name hv]; exact .mk h1 hsz h3 h4 h5
    · rw [Tr.ren_other hv]
      obtain ⟨g1, g2⟩ := Tr.renK_ok hs ks (isLoopD op num ks.length) num (loopNames (ks.take num.toNat)) 0 vis h5 hk
      exact .mk h1 (by split <;> assumption) h3 (by rw [g1]; exact h4) g2
theorem Tr.renK_ok {sfx : ByteArray} (hs : sfx.size ≤ 1000000) : ∀ (ks : List Tr) (lp : Bool) (num : Int) (dn : List ByteArray) (i : Nat) (vis : ByteArray → Bool), (∀ k ∈ ks, k.Ok) → (∀ k ∈ ks, k.long = false) →
    (Tr.renK sfx lp num dn i vis ks).length = ks.length ∧ ∀ k ∈ Tr.renK sfx lp num dn i vis ks, k.Ok
  | [], lp, num, dn, i, vis, _, _ => by rw [Tr.renK]; exact ⟨rfl, fun k hk => by cases hk⟩
  | x :: r, lp, num, dn, i, vis, hok, hl => by
    have hx := hok x (by simp)
    have hxl := hl x (by simp)
    have ih := fun v => Tr.renK_ok hs r lp num dn (i + 1) v (fun k hk => hok k (by simp [hk])) (fun k hk => hl k (by simp [hk]))
    have hnmd : (x.nmd sfx).Ok := by
      obtain ⟨op, nm, nu, ks⟩ := x
      have hn := (long_kids hxl).1
      have hsz : (nm ++ sfx).size ≤ 140737488355328 := by rw [ByteArray.size_append]; omega
      cases hx with | mk h1 h2 h3 h4 h5 =>
      exact .mk h1 (by split <;> assumption) h3 h4 h5
    have fin : ∀ (y : Tr) (v : ByteArray → Bool), y.Ok → (y :: Tr.renK sfx lp num dn (i + 1) v r).length = (x :: r).length ∧ ∀ k ∈ y :: Tr.renK sfx lp num dn (i + 1) v r, k.Ok := fun y v hy =>
      ⟨by rw [List.length_cons, (ih v).1, List.length_cons], fun k hk => by rcases List.mem_cons.1 hk with rfl | hk; exact hy; exact (ih v).2 k hk⟩
    rw [Tr.renK]
    split
    · exact fin _ _ hnmd
    · split
      · exact fin _ _ (Tr.ren_ok hs x _ hx hxl)
      · exact fin _ _ (Tr.ren_ok hs x _ hx hxl)
end
theorem shp_kids {ks ks' : List Tr} (h : ks.length = ks'.length ∧ ∀ (i : Nat) x y, ks[i]? = some x → ks'[i]? = some y → Tr.Shp x y) {x y : Tr} (hx : x.Shp y) : (x :: ks).length = (y :: ks').length ∧ ∀ (i : Nat) a b, (x :: ks)[i]? = some a → (y :: ks')[i]? = some b → Tr.Shp a b := by
  refine ⟨by simp [h.1], fun i a b ha hb => ?_⟩
  cases i with
  | zero => simp at ha hb; subst ha; subst hb; exact hx
  | succ i => exact h.2 i a b (by simpa using ha) (by simpa using hb)
mutual
theorem Tr.shp_refl : ∀ t : Tr, t.Shp t
  | .mk _ _ _ ks => .mk rfl (Tr.shps_refl ks).2
theorem Tr.shps_refl : ∀ ks : List Tr, ks.length = ks.length ∧ ∀ (i : Nat) x y, ks[i]? = some x → ks[i]? = some y → Tr.Shp x y
  | [] => ⟨rfl, fun i x y h => by simp at h⟩
  | k :: ks => shp_kids (Tr.shps_refl ks) (Tr.shp_refl k)
end
theorem Tr.shp_nmd (sfx : ByteArray) (t : Tr) : t.Shp (t.nmd sfx) := by obtain ⟨op, nm, nu, ks⟩ := t; exact .mk rfl (Tr.shps_refl ks).2
mutual
theorem Tr.ren_shp (sfx : ByteArray) : ∀ (t : Tr) (vis : ByteArray → Bool), t.Shp (t.ren sfx vis)
  | .mk op nm num ks, vis => by
    by_cases hv : op = 4 ∧ vis nm = true
    · rw [Tr.ren_name hv]; exact .mk rfl (Tr.shps_refl ks).2
    · rw [Tr.ren_other hv]
      obtain ⟨g1, g2⟩ := Tr.renK_shp sfx ks (isLoopD op num ks.length) num (loopNames (ks.take num.toNat)) 0 vis
      exact .mk g1 g2
theorem Tr.renK_shp (sfx : ByteArray) : ∀ (ks : List Tr) (lp : Bool) (num : Int) (dn : List ByteArray) (i : Nat) (vis : ByteArray → Bool), ks.length = (Tr.renK sfx lp num dn i vis ks).length ∧ ∀ (j : Nat) x y, ks[j]? = some x → (Tr.renK sfx lp num dn i vis ks)[j]? = some y → Tr.Shp x y
  | [], lp, num, dn, i, vis => by rw [Tr.renK]; exact ⟨rfl, fun i x y h => by simp at h⟩
  | k :: r, lp, num, dn, i, vis => by
    rw [Tr.renK]
    split
    · exact shp_kids (Tr.renK_shp sfx r ..) (Tr.shp_nmd sfx k)
    · split
      · exact shp_kids (Tr.renK_shp sfx r ..) (Tr.ren_shp sfx k _)
      · exact shp_kids (Tr.renK_shp sfx r ..) (Tr.ren_shp sfx k _)
end
mutual
theorem Tr.ren_same (sfx : ByteArray) : ∀ (t : Tr) (vis : ByteArray → Bool), t.decl = false → (∀ x, vis x = false) → t.ren sfx vis = t
  | .mk op nm num ks, vis, hd, hv => by
    rw [Tr.decl_mk] at hd
    simp only [Bool.or_eq_false_iff, Bool.and_eq_false_iff, beq_eq_false_iff_ne, decide_eq_false_iff_not, List.any_eq_false] at hd
    obtain ⟨⟨h1, h2⟩, h3⟩ := hd
    rw [Tr.ren_other (fun h => by rw [hv] at h; cases h.2), if_neg h1]
    rw [Tr.renK_same sfx ks _ num _ 0 vis (fun k hk => by simpa using h3 k hk) hv (fun hl => ?_)]
    have h0 : num = 0 := by
      have := isLoop_num hl
      rcases h2 with h2 | h2
      · rw [hl] at h2; cases h2
      · omega
    subst h0; exact ⟨rfl, rfl⟩
theorem Tr.renK_same (sfx : ByteArray) : ∀ (ks : List Tr) (lp : Bool) (num : Int) (dn : List ByteArray) (i : Nat) (vis : ByteArray → Bool), (∀ k ∈ ks, k.decl = false) → (∀ x, vis x = false) → (lp = true → num = 0 ∧ dn = []) → Tr.renK sfx lp num dn i vis ks = ks
  | [], lp, num, dn, i, vis, _, _, _ => by rw [Tr.renK]
  | k :: r, lp, num, dn, i, vis, hd, hv, hl => by
    have hk := hd k (by simp)
    have ih := Tr.renK_same sfx r lp num dn (i + 1) vis (fun k hk => hd k (by simp [hk])) hv hl
    have h50 : ¬ k.op = 50 := by
      obtain ⟨op, nm, nu, ks⟩ := k
      rw [Tr.decl_mk] at hk
      intro h
      replace h : op = 50 := h
      subst h; simp at hk
    rw [Tr.renK, if_neg (fun h => by have := (hl h.1).1; omega), if_neg h50, ih]
    split
    · rename_i h
      have hdn := (hl h.1).2
      rw [Tr.ren_same sfx k _ hk (fun x => by rw [hdn, hv]; rfl)]
    · rw [Tr.ren_same sfx k vis hk hv]
end
def Tr.renamed (t : Tr) (sfx : ByteArray) : Tr := t.ren sfx fun x => hasB1 x []

theorem c12 (t : Tr) (sfx : ByteArray) (hok : t.Ok) (hsz : t.size ≤ 100000) (hlg : t.long = false) (hs : sfx.size ≤ 1000000) : Pf Try.prog 12 [t.d, .str sfx] (.d (t.renamed sfx).d) := by
  refine pf_body (rvs := [.cell 4 24]) [(0, .d t.d), (1, .d (.str sfx))] Try.func12 Try.ntmps12 Try.results12 (fun S0 O0 w0 m0 hm0 => ?_)
  refine G_seq ?_
  refine g_region ?_
  have h40 := c40n sfx hs _ t (Nat.le_refl _) hok hsz hlg []
  have hra := (t.renamed sfx).d_agg
  obtain ⟨rop, rnm, rnu, rks, hra⟩ := hra
  change Pf Try.prog 40 [renD sfx, t.d, .nil] (.d (t.renamed sfx).d) at h40
  obtain ⟨kop, knm, knu, kks, hka⟩ := t.d_agg
  rw [hka, hra] at h40
  rw [hka, hra]
  refine sv rfl (y_box) ?_
  refine g_freeze 0 [] (.agg [.int .i64 kop, .str knm, .int .i64 knu, .sl (kks.map Tr.d)]) rfl ?_
  refine sv rfl (y_alloc zr24) ?_
  refine GOps_nil ?_
  refine thn_normal ?_
  refine G_seq ?_
  refine G_drawB 5 rfl (by kernel_rfl) (fun S1 O1 w1 m1 hm1 hm2 => ?_)
  have hB1 : ∀ i, i < m1.length → (List.range m1.length).contains i = true := fun i hi => by simpa using hi
  refine bq 0 hB1 rfl (q_move) ?_
  first | refine bq 2 hB1 rfl (q_load_agg sz24 Try.underlying24 rfl) ?_ | refine bq 2 hB1 rfl (q_loadp_agg (by exact sz24) Try.underlying24 rfl) ?_
  refine GB_go ?_
  refine ga1 1 ?_
  refine g_call (xs := [.tmp 5]) rfl (c39 sfx) ?_
  refine GOps_nil ⟨rfl, ?_⟩
  refine ga1 3 ?_
  refine g_call (xs := [.tmp 6, .tmp 7, .const (.pointer none)]) rfl (h40) ?_
  refine GOps_nil ⟨rfl, ?_⟩
  refine ga1 4 ?_
  first | refine sa rfl (d_store sz24) ?_ | refine sa rfl (d_store_take sz24) ?_
  refine GOps_nil ⟨rfl, ?_⟩
  refine GA_done (by kernel_rfl) ?_
  refine thn_normal ?_
  refine G_ret ?_
  refine findc sz24 Try.underlying24 (by simp) ?_
  exact ⟨rfl, rfl⟩

theorem c13 (t : Tr) (sfx : ByteArray) (hok : t.Ok) (hsz : t.size ≤ 100000) (hlg : t.long = false) (hs : sfx.size ≤ 1000000) : Pf Try.prog 13 [t.d, .str sfx] (.d (t.renamed sfx).d) := by
  refine pf_body (rvs := [.cell 4 24]) [(0, .d t.d), (1, .d (.str sfx))] Try.func13 Try.ntmps13 Try.results13 (fun S0 O0 w0 m0 hm0 => ?_)
  refine G_seq ?_
  refine g_region ?_
  have h41 := c41n sfx hs _ t (Nat.le_refl _) hok hsz hlg [] (by simp; omega)
  have hra := (t.renamed sfx).d_agg
  obtain ⟨rop, rnm, rnu, rks, hra⟩ := hra
  change Pf Try.prog 41 [t.d, .sl [], .str sfx, .sl []] (.d (t.renamed sfx).d) at h41
  obtain ⟨kop, knm, knu, kks, hka⟩ := t.d_agg
  rw [hka, hra] at h41
  rw [hka, hra]
  refine sv rfl (y_box) ?_
  refine g_freeze 0 [] (.agg [.int .i64 kop, .str knm, .int .i64 knu, .sl (kks.map Tr.d)]) rfl ?_
  refine sv rfl (y_alloc zr24) ?_
  refine GOps_nil ?_
  refine thn_normal ?_
  refine G_seq ?_
  refine g_region ?_
  first | refine sv rfl (y_load_agg sz24 Try.underlying24 rfl) ?_ | refine sv rfl (y_loadp_agg (by exact sz24) Try.underlying24 rfl) ?_
  refine sv rfl (y_move) ?_
  refine g_call (xs := [.tmp 5, .const (.slice none 0 0), .tmp 6, .const (.slice none 0 0)]) rfl (h41) ?_
  first | refine sa rfl (d_store sz24) ?_ | refine sa rfl (d_store_take sz24) ?_
  refine GOps_nil ?_
  refine thn_normal ?_
  refine G_ret ?_
  refine findc sz24 Try.underlying24 (by simp) ?_
  exact ⟨rfl, rfl⟩

end Go.Proofs.Ytphfdmagkgpgfaa
