import Derived.Test.YtklkbfpjimeaoaaGreatM15
import Derived.ChangeKeysEq
import Derived.Laws.Closers25b
/- Contracts of functions. Conditions: none. -/
set_option linter.unusedSimpArgs false
set_option linter.unusedVariables false
set_option maxRecDepth 20000
namespace Go.Proofs.YtklkbfpjimeaoaaGreat
open Go Go.Proofs.YtklkbfpjimeaoaaGreat.E
section
mutual
/-- All nodes of a tree are right. -/
def Tr.shaped : Tr → Bool
 | .mk op name num ks => rightB (.mk op name num ks) && Tr.shapeds ks
def Tr.shapeds : List Tr → Bool
 | [] => true
 | k :: ks => k.shaped && Tr.shapeds ks
end
theorem Tr.shapeds_all : ∀ ks : List Tr, Tr.shapeds ks = !(ks.any fun k => !k.shaped)
 | [] => rfl
 | k :: ks => by rw [Tr.shapeds, Tr.shapeds_all ks, List.any_cons]; cases k.shaped <;> simp
mutual
def Tr.depth : Tr → Int
 | .mk _ _ _ ks => Tr.deeps ks 0 + 1
def Tr.deeps : List Tr → Int → Int
 | [], d => d
 | k :: ks, d => Tr.deeps ks (if k.depth > d then k.depth else d)
end
mutual
theorem Tr.depth_bd : ∀ t : Tr, 1 ≤ t.depth ∧ t.depth ≤ t.size
 | .mk _ _ _ ks => by
  rw [Tr.depth, Tr.size]
  have := Tr.deeps_bd ks 0
  omega
theorem Tr.deeps_bd : ∀ (ks : List Tr) (d : Int), d ≤ Tr.deeps ks d ∧ (Tr.deeps ks d ≤ d ∨ Tr.deeps ks d ≤ Tr.sizes ks)
 | [], d => by rw [Tr.deeps]; omega
 | k :: ks, d => by
  rw [Tr.deeps, Tr.sizes]
  have h1 := Tr.depth_bd k
  have h2 := Tr.deeps_bd ks (if k.depth > d then k.depth else d)
  split at h2 <;> rename_i h <;> first | rw [if_pos h] | rw [if_neg h]
  all_goals omega
end
theorem Tr.deeps_drop {ks : List Tr} {z : Nat} {k : Tr} (h : ks[z]? = some k) (d : Int) : Tr.deeps (ks.drop z) d = Tr.deeps (ks.drop (z + 1)) (if k.depth > d then k.depth else d) := by
 obtain ⟨hlt, rfl⟩ := List.getElem?_eq_some_iff.1 h
 rw [List.drop_eq_getElem_cons hlt, Tr.deeps]
theorem Tr.sizes_drop {ks : List Tr} {z : Nat} {k : Tr} (h : ks[z]? = some k) : Tr.sizes (ks.drop z) = k.size + Tr.sizes (ks.drop (z + 1)) := by
 obtain ⟨hlt, rfl⟩ := List.getElem?_eq_some_iff.1 h
 rw [List.drop_eq_getElem_cons hlt, Tr.sizes]
theorem Tr.ds_one (op : Int) (name : ByteArray) (num : Int) (ks : List Tr) : [Tr.mk op name num ks].map Tr.d = [.agg [.int .i64 op, .str name, .int .i64 num, .sl (ks.map Tr.d)]] := by rw [List.map_cons, Tr.d_mk]; rfl
theorem c166 (t : Tr) (h : Pf Tryz.prog 88 [t.d, .map shapesM] (.d (.bool t.shaped))) : Pf Tryz.prog 166 [t.d, .ptr (.map shapesM)] (.d (.bool (!t.shaped))) := by
 obtain ⟨op, name, num, ks⟩ := t
 rw [Tr.d_mk]
 try simp only [Tr.op_mk, Tr.nm_mk, Tr.nu_mk, Tr.kids_mk]
 refine pf_body (rvs := [.tmp 3]) [(0, .d (.agg [.int .i64 op, .str name, .int .i64 num, .sl (ks.map Tr.d)])), (1, .d (.ptr (.map shapesM)))] Tryz.func166 Tryz.ntmps166 Tryz.results166 (fun S0 O0 w0 m0 hm0 => ?_)
 refine Z267 ?_;refine Z8 ?_
 refine vq rfl (qL u127) ?_
 refine gL (xs := [.tmp 4, .tmp 5]) rfl ((Tr.d_mk op name num ks ▸ h)) ?_
 refine Z41 ?_;refine Z229 ?_
 exact ⟨rfl, rfl⟩
theorem c88n : ∀ (n : Nat) (t : Tr), t.size ≤ n → t.Ok → Pf Tryz.prog 88 [t.d, .map shapesM] (.d (.bool t.shaped)) := by
 intro n
 induction n with
 | zero => intro t h; exact absurd t.size_pos (by omega)
 | succ n ih =>
  intro t hsz hok
  obtain ⟨op, name, num, ks⟩ := t
  have hkd : ∀ k ∈ ks, k.size ≤ n := fun k hk => by
   have := Tr.size_mem hk
   rw [Tr.size] at hsz
   omega
  rw [Tr.d_mk]
  have hok' := hok
  cases hok' with | mk h1 h2 h3 h4 h5 =>
  refine pf_body (rvs := [.tmp 4]) [(0, .d (.agg [.int .i64 op, .str name, .int .i64 num, .sl (ks.map Tr.d)])), (1, .d (.map shapesM))] Tryz.func88 Tryz.ntmps88 Tryz.results88 (fun S0 O0 w0 m0 hm0 => ?_)
  refine Z245 ?_;refine Z13 ?_
  refine gF 0 [] (.map shapesM) rfl ?_
  refine Z230 ?_;refine Z8 ?_
  refine vq rfl (qL u127) ?_
  refine gL (xs := [.tmp 5, .tmp 6]) rfl ((Tr.d_mk op name num ks ▸ c165 (.mk op name num ks) hok)) ?_
  refine Z0 ?_;refine Z44 ?_
  refine sg rfl (fun hg => sP 9 rfl hg (qL u22)) ?_
  refine sg rfl (fun hg => q_makeFunc (xs := []) (ys := [.tmp 3])) ?_
  refine g_callg (xs := [.tmp 10, .tmp 11]) rfl (fun hg => c52 ks 166 [] [.ptr (.map shapesM)] (fun k => !k.shaped) h4 (fun x hx => c166 x (ih x (hkd x hx) (h5 x hx)))) ?_
  refine sg rfl (fun hg => sP 12 rfl hg q_not) ?_
  refine Z257 ?_
  exact ⟨by rw [Tr.shaped, Tr.shapeds_all], rfl⟩
set_option maxHeartbeats 4000000 in
theorem c151n : ∀ (n : Nat) (t : Tr), t.size ≤ n → t.Ok → t.size ≤ 1000000000 → Pf Tryz.prog 151 [t.d] (.tup [.d (.int .i64 t.size), .d (.int .i64 t.depth)]) := by
 intro n
 induction n with
 | zero => intro t h; exact absurd t.size_pos (by omega)
 | succ n ih =>
  intro t hsz hok hszb
  obtain ⟨op, name, num, ks⟩ := t
  have hkd : ∀ k ∈ ks, k.size ≤ n := fun k hk => by
   have := Tr.size_mem hk
   rw [Tr.size] at hsz
   omega
  rw [Tr.d_mk]
  cases hok with | mk h1 h2 h3 h4 h5 =>
  have hln := Tr.len_sizes ks
  rw [Tr.size] at hszb
  refine pf_body (rvs := [.tmp 2, .tmp 3]) [(0, .d (.agg [.int .i64 op, .str name, .int .i64 num, .sl (ks.map Tr.d)]))] Tryz.func151 Tryz.ntmps151 Tryz.results151 (fun S0 O0 w0 m0 hm0 => ?_)
  refine Z245 ?_;refine Z1 ?_;refine Z233 ?_;refine Z250 ?_;refine Z273 ?_
  refine g_loop (α := Nat × Int × Int) (fun z => ⟨[(11, .d (.int .i64 (z.1 : Nat))), (10, .d (.int .i64 ((ks.map Tr.d).length : Nat))), (9, .d (.sl (ks.map Tr.d))), (2, .d (.int .i64 z.2.1)), (3, .d (.int .i64 z.2.2))], []⟩) (fun z => ks.length - z.1) (fun z => z.1 ≤ ks.length ∧ 0 ≤ z.2.1 ∧ z.2.1 + Tr.sizes (ks.drop z.1) = Tr.sizes ks ∧ 0 ≤ z.2.2 ∧ z.2.2 ≤ Tr.sizes ks ∧ Tr.deeps (ks.drop z.1) z.2.2 = Tr.deeps ks 0) (0, 0, 0) ⟨Nat.zero_le _, by show (0 : Int) ≤ 0; omega, by show (0 : Int) + _ = _; simp, by show (0 : Int) ≤ 0; omega, by show (0 : Int) ≤ _; omega, rfl⟩ (fun z hz Q' hn0 he0 hr0 => ?_) (le_of)
  obtain ⟨z, c, e⟩ := z
  obtain ⟨hz1, hc1, hc2, hc3, hc4, hc5⟩ := hz
  replace hz1 : z ≤ ks.length := hz1
  replace hc1 : 0 ≤ c := hc1
  replace hc2 : c + Tr.sizes (ks.drop z) = Tr.sizes ks := hc2
  replace hc3 : 0 ≤ e := hc3
  replace hc4 : e ≤ Tr.sizes ks := hc4
  replace hc5 : Tr.deeps (ks.drop z) e = Tr.deeps ks 0 := hc5
  refine Z248 ?_
  refine gC ?_ ?_ <;> intro hb0
  ·
   have hlt : z < ks.length := by simpa using hb0
   obtain ⟨k, hk⟩ : ∃ k, ks[z]? = some k := ⟨_, gE hlt⟩
   have hmem := mG hk
   have hxd := Tr.ds_get hk
   have hxa := hxd
   obtain ⟨kop, knm, knu, kks, hka⟩ := k.d_agg
   rw [hka] at hxa
   have hsd := Tr.sizes_drop hk
   have hdb := Tr.depth_bd k
   have hsm := Tr.size_mem hmem
   refine Z25 ?_;refine Z258 ?_;refine Z269 ?_;refine Z63 ?_;refine Z5 ?_;refine Z8 ?_
   refine gL (xs := [.tmp 16]) rfl ((hka ▸ ih k (hkd k hmem) (h5 k hmem) (by omega))) ?_
   refine Z271 ?_;refine Z1 ?_;refine Z1 ?_;refine Z30 ?_
   refine gP [0, 1, 2, 3, 5, 6, 7, 9, 10, 11] ?_
   refine Z14 ?_;refine Z231 ?_;refine Z26 ?_;refine Z1 ?_;refine Z162 ?_;refine Z231 ?_
   refine sv rfl (Yld_pure rfl (oR rfl) q_max) ?_
   refine Z1 ?_;refine Z137 ?_;refine Z239 ?_
   refine hn0 _ (z + 1, c + k.size, if k.depth > e then k.depth else e) ⟨by show z + 1 ≤ ks.length; omega, by show 0 ≤ c + (k.size : Int); omega, by show c + (k.size : Int) + (Tr.sizes (ks.drop (z + 1)) : Nat) = (Tr.sizes ks : Nat); omega, by show 0 ≤ (if k.depth > e then k.depth else e); split <;> omega, by show (if k.depth > e then k.depth else e) ≤ _; split <;> omega, by show Tr.deeps (ks.drop (z + 1)) _ = _; rw [← Tr.deeps_drop hk e]; exact hc5⟩ (by show ks.length - (z + 1) < ks.length - z; omega) le_of
  have hge : z = ks.length := by
   have : ¬ (z : Int) < (ks.map Tr.d).length := by simpa using hb0
   rw [List.length_map] at this
   omega
  have hdd := Tr.deeps_bd ks 0
  refine Z259 ?_
  subst hge
  rw [List.drop_length] at hc2 hc5
  rw [Tr.deeps] at hc5
  rw [Tr.sizes] at hc2
  refine Z0 ?_;refine Z236 ?_;refine Z26 ?_;refine Z1 ?_;refine Z228 ?_;refine Z112 ?_
  exact ⟨by rw [Tr.size, Tr.depth, ← hc5]; congr 5; omega, rfl⟩
def limitsE (ts : List Tr) : Int := if (Tr.sizes ts : Int) > 4000 then 5 else if Tr.deeps ts 0 > 60 then 6 else 0
set_option maxHeartbeats 4000000 in
theorem c85 (ks : List Tr) (h5 : ∀ k ∈ ks, k.Ok) (hszb : Tr.sizes ks ≤ 1000000000) : Pf Tryz.prog 85 [.sl (ks.map Tr.d)] (.d (.int .i64 (limitsE ks))) := by
 refine pf_body (rvs := [.tmp 2]) [(0, .d (.sl (ks.map Tr.d)))] Tryz.func85 Tryz.ntmps85 Tryz.results85 (fun S0 O0 w0 m0 hm0 => ?_)
 refine Z3 ?_
 have hln := Tr.len_sizes ks
 refine Z230 ?_;refine Z1 ?_;refine Z256 ?_;refine Z273 ?_
 refine g_loop (α := Nat × Int × Int) (fun z => ⟨[(11, .d (.int .i64 (z.1 : Nat))), (10, .d (.int .i64 ((ks.map Tr.d).length : Nat))), (9, .d (.sl (ks.map Tr.d))), (3, .d (.int .i64 z.2.1)), (4, .d (.int .i64 z.2.2))], []⟩) (fun z => ks.length - z.1) (fun z => z.1 ≤ ks.length ∧ 0 ≤ z.2.1 ∧ z.2.1 + Tr.sizes (ks.drop z.1) = Tr.sizes ks ∧ 0 ≤ z.2.2 ∧ z.2.2 ≤ Tr.sizes ks ∧ Tr.deeps (ks.drop z.1) z.2.2 = Tr.deeps ks 0) (0, 0, 0) ⟨Nat.zero_le _, by show (0 : Int) ≤ 0; omega, by show (0 : Int) + _ = _; simp, by show (0 : Int) ≤ 0; omega, by show (0 : Int) ≤ _; omega, rfl⟩ (fun z hz Q' hn0 he0 hr0 => ?_) (le_of)
 obtain ⟨z, c, e⟩ := z
 obtain ⟨hz1, hc1, hc2, hc3, hc4, hc5⟩ := hz
 replace hz1 : z ≤ ks.length := hz1
 replace hc1 : 0 ≤ c := hc1
 replace hc2 : c + Tr.sizes (ks.drop z) = Tr.sizes ks := hc2
 replace hc3 : 0 ≤ e := hc3
 replace hc4 : e ≤ Tr.sizes ks := hc4
 replace hc5 : Tr.deeps (ks.drop z) e = Tr.deeps ks 0 := hc5
 refine Z248 ?_
 refine gC ?_ ?_ <;> intro hb0
 ·
  have hlt : z < ks.length := by simpa using hb0
  obtain ⟨k, hk⟩ : ∃ k, ks[z]? = some k := ⟨_, gE hlt⟩
  have hmem := mG hk
  have hxd := Tr.ds_get hk
  have hxa := hxd
  obtain ⟨kop, knm, knu, kks, hka⟩ := k.d_agg
  rw [hka] at hxa
  have hsd := Tr.sizes_drop hk
  have hdb := Tr.depth_bd k
  have hsm := Tr.size_mem hmem
  refine Z25 ?_;refine Z258 ?_;refine Z269 ?_;refine Z63 ?_;refine Z5 ?_;refine Z8 ?_
  refine gL (xs := [.tmp 16]) rfl ((hka ▸ c151n k.size k (Nat.le_refl _) (h5 k hmem) (by omega))) ?_
  refine Z271 ?_;refine Z1 ?_;refine Z1 ?_;refine Z30 ?_
  refine gP [0, 2, 3, 4, 6, 7, 8, 9, 10, 11] ?_
  refine Z14 ?_;refine Z231 ?_;refine Z26 ?_;refine Z1 ?_;refine Z162 ?_;refine Z231 ?_
  refine sv rfl (Yld_pure rfl (oR rfl) q_max) ?_
  refine Z1 ?_;refine Z137 ?_;refine Z239 ?_
  refine hn0 _ (z + 1, c + k.size, if k.depth > e then k.depth else e) ⟨by show z + 1 ≤ ks.length; omega, by show 0 ≤ c + (k.size : Int); omega, by show c + (k.size : Int) + (Tr.sizes (ks.drop (z + 1)) : Nat) = (Tr.sizes ks : Nat); omega, by show 0 ≤ (if k.depth > e then k.depth else e); split <;> omega, by show (if k.depth > e then k.depth else e) ≤ _; split <;> omega, by show Tr.deeps (ks.drop (z + 1)) _ = _; rw [← Tr.deeps_drop hk e]; exact hc5⟩ (by show ks.length - (z + 1) < ks.length - z; omega) le_of
 have hge : z = ks.length := by
  have : ¬ (z : Int) < (ks.map Tr.d).length := by simpa using hb0
  rw [List.length_map] at this
  omega
 have hdd := Tr.deeps_bd ks 0
 refine Z252 ?_
 refine blk_exit (tN (gS (G_block (gS (gR ?_)))))
 subst hge
 rw [List.drop_length] at hc2 hc5
 rw [Tr.deeps] at hc5
 rw [Tr.sizes] at hc2
 have hcs : c = Tr.sizes ks := by omega
 subst hcs
 subst hc5
 refine Z0 ?_;refine Z109 ?_;refine Z234 ?_
 refine gC ?_ ?_ <;> intro hb1
 ·
  refine Z3 ?_;refine Z283 ?_
  exact ⟨by rw [limitsE, if_pos (oR hb1)], rfl⟩
 refine Z254 ?_;refine Z109 ?_;refine Z234 ?_
 refine gC ?_ ?_ <;> intro hb2
 ·
  refine Z3 ?_;refine Z283 ?_
  exact ⟨by rw [limitsE, if_neg (of_decide_eq_false hb1), if_pos (oR hb2)], rfl⟩
 refine Z91 ?_;refine Z229 ?_
 exact ⟨by rw [limitsE, if_neg (of_decide_eq_false hb1), if_neg (of_decide_eq_false hb2)], rfl⟩
def nodeE : Tr → Int
 | .mk op name num ks =>
  if (limitsE [.mk op name num ks] != 0) = true then limitsE [.mk op name num ks]
  else if ((!isExprB op && !isStmtB op && op != 30 && op != 31) || !(Tr.mk op name num ks).shaped) = true then 2 else 0
set_option maxHeartbeats 4000000 in
theorem c24 (t : Tr) (hok : t.Ok) (hszb : t.size ≤ 1000000000) : Pf Tryz.prog 24 [t.d] (.d (.int .i64 (nodeE t))) := by
 obtain ⟨op, name, num, ks⟩ := t
 rw [Tr.d_mk]
 try simp only [Tr.op_mk, Tr.nm_mk, Tr.nu_mk, Tr.kids_mk]
 refine pf_body (rvs := [.tmp 2]) [(0, .d (.agg [.int .i64 op, .str name, .int .i64 num, .sl (ks.map Tr.d)]))] Tryz.func24 Tryz.ntmps24 Tryz.results24 (fun S0 O0 w0 m0 hm0 => ?_)
 refine Z245 ?_;refine Z233 ?_;refine Z8 ?_
 refine sv rfl (y_buildSlice (xs := [.tmp 4]) u22 inf27) ?_
 refine gL (xs := [.tmp 5]) rfl ((Tr.ds_one op name num ks ▸ c85 [.mk op name num ks] (by simpa using hok) (by simpa [Tr.sizes] using hszb))) ?_
 refine Z277 ?_;refine Z261 ?_
 refine gC ?_ ?_ <;> intro hb0
 ·
  refine Z254 ?_;refine Z243 ?_
  exact ⟨by rw [nodeE, if_pos hb0], rfl⟩
 refine Z185 ?_
 refine g_cg0 [10, 11, 12, 13, 14, 15, 16, 17, 18, 19, 20, 21, 22, 23, 24, 25, 26, 27, 28, 29, 30, 31, 32, 33, 34, 35] ?_
 refine Z15 ?_
 refine cS 1 (fun b rest hc1 hc2 hc3 => vq rfl (qF u27 rfl sz3) (gN ⟨rfl, rfl⟩)) ?_
 refine Z168 ?_
 refine cS 2 (fun b rest hc1 hc2 hc3 => vq rfl (qL u3) (gN ⟨rfl, rfl⟩)) ?_
 refine Z110 ?_
 refine cS 3 (fun b rest hc1 hc2 hc3 => gL (xs := [.tmp 11]) rfl (c74 op) (gN ⟨rfl, rfl⟩)) ?_
 refine Z97 ?_
 refine cS 4 (fun b rest hc1 hc2 hc3 => vq rfl q_not (gN ⟨rfl, rfl⟩)) ?_
 refine cP [3, 2] ?_
 refine cS 5 (fun b rest hc1 hc2 hc3 => vq rfl qM (gN ⟨rfl, rfl⟩)) ?_
 refine Z77 ?_
 refine cS 6 (fun b rest hc1 hc2 hc3 => sg rfl (fun hg => qF u27 rfl sz3) (gN ⟨rfl, rfl⟩)) ?_
 refine cP [5, 4] ?_
 refine cS 7 (fun b rest hc1 hc2 hc3 => sg rfl (fun hg => sP 15 rfl hg (qL u3)) (gN ⟨rfl, rfl⟩)) ?_
 refine cP [6, 4, 4] ?_
 refine cS 8 (fun b rest hc1 hc2 hc3 => g_callg (xs := [.tmp 16]) rfl (fun hg => c95 op) (gN ⟨rfl, rfl⟩)) ?_
 refine cP [7, 4] ?_
 refine cS 9 (fun b rest hc1 hc2 hc3 => sg rfl (fun hg => sP 17 rfl hg q_not) (gN ⟨rfl, rfl⟩)) ?_
 refine cP [4, 8] ?_
 refine cS 10 (fun b rest hc1 hc2 hc3 => vq rfl q_and (gN ⟨rfl, rfl⟩)) ?_
 refine cP [9, 7] ?_
 refine cS 11 (fun b rest hc1 hc2 hc3 => vq rfl qM (gN ⟨rfl, rfl⟩)) ?_
 refine cP [10] ?_
 refine cS 12 (fun b rest hc1 hc2 hc3 => sg rfl (fun hg => qF u27 rfl sz3) (gN ⟨rfl, rfl⟩)) ?_
 refine cP [11, 10] ?_
 refine cS 13 (fun b rest hc1 hc2 hc3 => sg rfl (fun hg => sP 21 rfl hg (qL u3)) (gN ⟨rfl, rfl⟩)) ?_
 refine cP [12, 10] ?_
 refine cS 14 (fun b rest hc1 hc2 hc3 => sg rfl (fun hg => sP 22 rfl hg q_neq) (gN ⟨rfl, rfl⟩)) ?_
 refine cP [10, 13] ?_
 refine cS 15 (fun b rest hc1 hc2 hc3 => vq rfl q_and (gN ⟨rfl, rfl⟩)) ?_
 refine cP [14, 10] ?_
 refine cS 16 (fun b rest hc1 hc2 hc3 => vq rfl qM (gN ⟨rfl, rfl⟩)) ?_
 refine cP [15] ?_
 refine cS 17 (fun b rest hc1 hc2 hc3 => sg rfl (fun hg => qF u27 rfl sz3) (gN ⟨rfl, rfl⟩)) ?_
 refine cP [16, 15] ?_
 refine cS 18 (fun b rest hc1 hc2 hc3 => sg rfl (fun hg => sP 26 rfl hg (qL u3)) (gN ⟨rfl, rfl⟩)) ?_
 refine cP [17, 15] ?_
 refine cS 19 (fun b rest hc1 hc2 hc3 => sg rfl (fun hg => sP 27 rfl hg q_neq) (gN ⟨rfl, rfl⟩)) ?_
 refine cP [15, 18] ?_
 refine cS 20 (fun b rest hc1 hc2 hc3 => vq rfl q_and (gN ⟨rfl, rfl⟩)) ?_
 refine cP [19, 15] ?_
 refine cS 21 (fun b rest hc1 hc2 hc3 => vq rfl qM (gN ⟨rfl, rfl⟩)) ?_
 refine cP [20] ?_
 refine cS 22 (fun b rest hc1 hc2 hc3 => sg rfl (fun hg => qG (by exact sz27) u27 rfl) (gN ⟨rfl, rfl⟩)) ?_
 refine cP [20, 20] ?_
 refine cS 23 (fun b rest hc1 hc2 hc3 => g_callg (xs := []) rfl (fun hg => c86) (gN ⟨rfl, rfl⟩)) ?_
 refine cP [21, 22, 22, 20] ?_
 refine cS 24 (fun b rest hc1 hc2 hc3 => g_callg (xs := [.tmp 31, .tmp 32]) rfl (fun hg => (Tr.d_mk op name num ks ▸ c88n _ (.mk op name num ks) (Nat.le_refl _) hok)) (gN ⟨rfl, rfl⟩)) ?_
 refine cP [23, 20] ?_
 refine cS 25 (fun b rest hc1 hc2 hc3 => sg rfl (fun hg => sP 33 rfl hg q_not) (gN ⟨rfl, rfl⟩)) ?_
 refine cP [20, 24] ?_
 refine cS 26 (fun b rest hc1 hc2 hc3 => vq rfl q_or (gN ⟨rfl, rfl⟩)) ?_
 refine Z84 ?_
 refine tN ?_
 refine gC ?_ ?_ <;> intro hb1
 ·
  refine Z53 ?_;refine Z147 ?_;refine Z282 ?_
  exact ⟨by rw [nodeE, if_neg (by rw [hb0]; decide), if_pos hb1], rfl⟩
 refine Z58 ?_;refine Z147 ?_;refine Z14 ?_;refine Z229 ?_
 exact ⟨by rw [nodeE, if_neg (by rw [hb0]; decide), if_neg (by rw [hb1]; decide)], rfl⟩
end
section
def W (n : Int) : Int := IntKind.i64.wrap n
def U (n : Int) : Int := IntKind.u64.wrap n
def withinB (n : Int) : Bool := decide (n ≥ -1000000) && decide (n ≤ 1000000)
def lastS (f b c : Int) : Int := W (f + W (b * W (c - 1)))
def lowS (f b c : Int) : Int := if lastS f b c < f then lastS f b c else f
def highS (f b c : Int) : Int := if lastS f b c > f then lastS f b c else f
def normalS (f b c : Int) : (Int × Int × Int) × Int :=
 if c ≤ 0 then ((1, 0, 1), 0)
 else if (!withinB (lowS f b c) || !withinB (highS f b c)) = true then ((0, 0, 0), 4) else ((lowS f b c, highS f b c, if (c == 1) = true then 1 else b), 0)
def turnS (f b c : Int) : Int × Int × Int := if (c == 0) = true then (f, b, c) else (lastS f b c, W (0 - b), c)
def ofS (lo hi : Int) : (Int × Int × Int) × Int :=
 if ((!withinB lo || !withinB hi) || !withinB 1) = true then ((0, 0, 0), 4) else if lo > hi then normalS 0 0 0 else normalS lo 1 (W (W ((W (hi - lo)).tdiv 1) + 1))
def seriesS (lo hi st : Int) : Int × Int × Int :=
 if lo > hi then (0, 0, 0) else if st < 0 then (hi, st, W (W ((W (hi - lo)).tdiv (W (0 - st))) + 1)) else (lo, st, W (W ((W (hi - lo)).tdiv st) + 1))
def limS (lo hi : Int) : Int := if (!withinB lo || !withinB hi) = true then 4 else 0
def stepS (st : Int) : Int := if st < 0 then U (0 - U st) else U st
def checkS (lo hi st : Int) : Int :=
 if ((!(decide (lo = 1) && decide (hi = 0) && decide (st = 1))) && !(lo == hi && st == 1)) = true then
  (if (decide (lo ≥ hi) || st == 0) = true then 2 else if ((U (W (hi - lo))).tmod (stepS st) != 0) = true then 2 else limS lo hi)
 else limS lo hi
def sizeS (lo hi st : Int) : Int := if (checkS lo hi st != 0) = true then 0 else (seriesS lo hi st).2.2
def wf64 (n : Int) : Prop := -9223372036854775808 ≤ n ∧ n ≤ 9223372036854775807
theorem W_wf (n : Int) : wf64 (W n) := by
 have := wrap_within IntKind.i64 n
 exact this
variable {n : Int}
theorem U_ne (h : wf64 n) (h0 : n ≠ 0) : U n ≠ 0 := by
 unfold wf64 at h
 unfold U IntKind.wrap
 simp only [IntKind.signed, IntKind.bits] at *
 simp
 omega
theorem Un_ne (h : wf64 n) (h0 : n < 0) : U (0 - U n) ≠ 0 := by
 unfold wf64 at h
 unfold U IntKind.wrap
 simp only [IntKind.signed, IntKind.bits] at *
 simp
 omega
theorem W_neg (h : wf64 n) (h0 : n < 0) : W (0 - n) ≠ 0 := by
 unfold wf64 at h
 unfold W IntKind.wrap
 simp only [IntKind.signed, IntKind.bits] at *
 simp
 omega
theorem eq_rg (lo hi st : Int) (w : World) : (Op.eqFields 9999 #[.int .i64 lo, .int .i64 hi, .int .i64 st] #[.int .i64 1, .int .i64 0, .int .i64 1] (Tryz.prog.fieldsOf 199).toList).run Tryz.prog w = .ok (decide (lo = 1) && decide (hi = 0) && decide (st = 1)) w := by
 have p3 : Tryz.prog.plainKey 3 = true := by kernel_rfl
 simp only [Program.fieldsOf, u199, Op.eqFields]
 have q : ∀ (x y z : Int) w, (part 3 #[.int .i64 x, .int .i64 y, .int .i64 z] 0).run Tryz.prog w = .ok (.int .i64 x) w := fun x y z w => run_part_plain w p3 rfl
 have q1 : ∀ (x y z : Int) w, (part 3 #[.int .i64 x, .int .i64 y, .int .i64 z] 1).run Tryz.prog w = .ok (.int .i64 y) w := fun x y z w => run_part_plain w p3 rfl
 have q2 : ∀ (x y z : Int) w, (part 3 #[.int .i64 x, .int .i64 y, .int .i64 z] 2).run Tryz.prog w = .ok (.int .i64 z) w := fun x y z w => run_part_plain w p3 rfl
 have e3 : ∀ w d (a b : Int), (Op.equalIn (d + 1) 3 (.int .i64 a) (.int .i64 b)).run Tryz.prog w = .ok (decide (a = b)) w := fun w d a b => by rw [run_equalIn_int w d 3 .i64 .i64 a b u3]; congr 1
 by_cases h1 : lo = 1 <;> by_cases h2 : hi = 0 <;> by_cases h3 : st = 1 <;> simp [Sem.run_bind, q, q1, q2, e3 _ 9998, Result.andThen_ok, h1, h2, h3]
theorem c303 (n : Int) : Pf Tryz.prog 303 [.int .i64 n] (.d (.bool (withinB n))) := by
 refine pf_body (rvs := [.tmp 2]) [(0, .d (.int .i64 n))] Tryz.func303 Tryz.ntmps303 Tryz.results303 (fun S0 O0 w0 m0 hm0 => ?_)
 refine Z280 ?_;refine Z99 ?_;refine Z249 ?_
 refine sg rfl (fun hg => sP 6 rfl hg q_leq) ?_
 refine Z257 ?_
 exact ⟨rfl, rfl⟩
theorem c320 (f b c : Int) : Pf Tryz.prog 320 [.agg [.int .i64 f, .int .i64 b, .int .i64 c]] (.d (.int .i64 (lastS f b c))) := by
 refine pf_body (rvs := [.tmp 2]) [(0, .d (.agg [.int .i64 f, .int .i64 b, .int .i64 c]))] Tryz.func320 Tryz.ntmps320 Tryz.results320 (fun S0 O0 w0 m0 hm0 => ?_)
 refine Z232 ?_
 refine gF 0 [] (.agg [.int .i64 f, .int .i64 b, .int .i64 c]) rfl ?_
 refine Z230 ?_;refine Z182 ?_;refine Z17 ?_;refine Z182 ?_;refine Z17 ?_;refine Z182 ?_;refine Z17 ?_;refine Z219 ?_
 refine vq rfl (q_mul (hw := rfl)) ?_
 refine Z196 ?_;refine Z229 ?_
 exact ⟨rfl, rfl⟩
theorem c304 (f b c : Int) : Pf Tryz.prog 304 [.agg [.int .i64 f, .int .i64 b, .int .i64 c]] (.tup [.d (.agg [.int .i64 (normalS f b c).1.1, .int .i64 (normalS f b c).1.2.1, .int .i64 (normalS f b c).1.2.2]), .d (.int .i64 (normalS f b c).2)]) := by
 refine pf_body (rvs := [.cell 2 199, .tmp 3]) [(0, .d (.agg [.int .i64 f, .int .i64 b, .int .i64 c]))] Tryz.func304 Tryz.ntmps304 Tryz.results304 (fun S0 O0 w0 m0 hm0 => ?_)
 refine Z232 ?_
 refine gF 0 [] (.agg [.int .i64 f, .int .i64 b, .int .i64 c]) rfl ?_
 refine Z133 ?_;refine Z233 ?_;refine Z182 ?_;refine Z17 ?_
 refine vq rfl q_leq ?_
 refine Z10 ?_
 refine gC ?_ ?_ <;> intro hb0
 ·
  refine Z3 ?_;refine Z73 ?_;refine Z55 ?_;refine Z235 ?_;refine Z56 ?_
  exact ⟨by rw [normalS, if_pos (oR hb0)], rfl⟩
 refine Z58 ?_
 refine g_cg [9, 10, 11, 12, 13, 14, 15, 16, 17, 18, 19, 20, 21, 4] (fun bq => cond (bq 13) ([[.d (.int .i64 0), .d (.int .i64 0), .d (.int .i64 0)]] ++ [cond (bq 14) [.d (.int .i64 (lowS f b c)), .d (.int .i64 (highS f b c)), .d (.int .i64 b)] [.d (.int .i64 0), .d (.int .i64 0), .d (.int .i64 0)]]) [[.d (.int .i64 0), .d (.int .i64 0), .d (.int .i64 0)]]) rfl ?_
 refine Z15 ?_
 refine cS 1 (fun _ _ _ _ _ => vq rfl (qF u260 rfl sz3) (gN ⟨rfl, rfl⟩)) ?_
 refine Z168 ?_
 refine cS 2 (fun _ _ _ _ _ => vq rfl (qL u3) (gN ⟨rfl, rfl⟩)) ?_
 refine Z15 ?_
 refine cS 3 (fun _ _ _ _ _ => vq rfl (qG (by exact sz260) u260 rfl) (gN ⟨rfl, rfl⟩)) ?_
 refine Z97 ?_
 refine cS 4 (fun _ _ _ _ _ => gL (xs := [.tmp 11]) rfl (c320 f b c) (gN ⟨rfl, rfl⟩)) ?_
 refine cP [1, 3] ?_
 refine cS 5 (fun _ _ _ _ _ => sv rfl (Yld_pure rfl (oR rfl) q_min) (gN ⟨rfl, rfl⟩)) ?_
 refine Z15 ?_
 refine cS 6 (fun _ _ _ _ _ => vq rfl (qF u260 rfl sz3) (gN ⟨rfl, rfl⟩)) ?_
 refine Z157 ?_
 refine cS 7 (fun _ _ _ _ _ => vq rfl (qL u3) (gN ⟨rfl, rfl⟩)) ?_
 refine Z15 ?_
 refine cS 8 (fun _ _ _ _ _ => vq rfl (qG (by exact sz260) u260 rfl) (gN ⟨rfl, rfl⟩)) ?_
 refine cP [7, 3] ?_
 refine cS 9 (fun _ _ _ _ _ => gL (xs := [.tmp 16]) rfl (c320 f b c) (gN ⟨rfl, rfl⟩)) ?_
 refine cP [6, 8] ?_
 refine cS 10 (fun _ _ _ _ _ => sv rfl (Yld_pure rfl (oR rfl) q_max) (gN ⟨rfl, rfl⟩)) ?_
 refine Z15 ?_
 refine cS 11 (fun _ _ _ _ _ => vq rfl (qF u260 rfl sz3) (gN ⟨rfl, rfl⟩)) ?_
 refine cP [10] ?_
 refine cS 12 (fun _ _ _ _ _ => vq rfl (qL u3) (gN ⟨rfl, rfl⟩)) ?_
 refine cP [4, 9, 11] ?_
 refine cS 13 (fun _ _ _ _ _ => vq rfl (q_buildS pl199 zr199) (gN ⟨rfl, rfl⟩)) ?_
 refine Z15 ?_
 refine cS 14 (fun bq rest hc1 hc2 hc3 => by
  have hs := hc3.no 14 13 hc1
  have e1 : upd bq 13 13 = true := rfl
  have e2 : upd bq 13 14 = false := hs
  simp only [hc1, cond_false]
  refine Z133 ?_
  exact (gN ⟨rfl, by rw [e1, e2]; rfl⟩)) ?_
 refine cP [13, 12, 8, 0, 1, 2, 3, 4, 5, 6, 7, 8, 9, 10, 11, 12, 13] ?_
 refine cg_act 15 (fun bq rest hc1 hc2 hc3 => by
  have ha := hc2 13 dep_in
  have e1 : upd bq 14 13 = true := ha
  have e2 : upd bq 14 14 = true := rfl
  simp only [ha, hc1, cond_true, cond_false]
  refine Z55 ?_
  exact (gN ⟨rfl, by rw [e1, e2]; rfl⟩)) ?_
 refine cg_done (mem'' := [[.d (.int .i64 0), .d (.int .i64 0), .d (.int .i64 0)], [.d (.int .i64 (lowS f b c)), .d (.int .i64 (highS f b c)), .d (.int .i64 b)]]) ?_
 refine tN ?_
 refine G_seq_cut (α := Int) (fun st => ⟨[(1, .d (.ptr (.agg [.int .i64 f, .int .i64 b, .int .i64 c]))), (2, .ref 0 0), (3, .d (.int .i64 0)), (4, .ref 1 0)], [[.d (.int .i64 0), .d (.int .i64 0), .d (.int .i64 0)], [.d (.int .i64 (lowS f b c)), .d (.int .i64 (highS f b c)), .d (.int .i64 st)]]⟩) (fun st => st = if (c == 1) = true then 1 else b) (fun Q' hn he hr => ?_) (fun st hst => ?_)
 ·
  refine Z53 ?_;refine Z150 ?_;refine Z14 ?_;refine Z182 ?_;refine Z17 ?_;refine Z20 ?_;refine Z10 ?_
  refine gC ?_ ?_ <;> intro hb1
  ·
   refine Z14 ?_
   refine sv rfl (y_fieldAt 2 u199 rfl sz3) ?_
   refine Z148 ?_;refine Z52 ?_
   refine hn _ 1 (by rw [if_pos hb1]) le_of
  refine Z167 ?_
  refine hn _ b (by rw [if_neg (by rw [hb1]; decide)]) le_of
 have h0 := of_decide_eq_false hb0
 refine Z153 ?_
 refine sv rfl (y_fieldAt 0 u199 rfl sz3) ?_
 refine Z54 ?_
 refine gL (xs := [.tmp 27]) rfl (c303 _) ?_
 refine Z41 ?_;refine Z0 ?_
 refine sg rfl (fun hg => q_fieldAddr u199 rfl sz3) ?_
 refine sg rfl (fun hg => sP 31 rfl hg (qO u3)) ?_
 refine g_callg (xs := [.tmp 32]) rfl (fun hg => c303 _) ?_
 refine sg rfl (fun hg => sP 33 rfl hg q_not) ?_
 refine Z251 ?_
 refine gC ?_ ?_ <;> intro hb2
 ·
  refine Z53 ?_;refine Z150 ?_;refine Z14 ?_;refine Z73 ?_;refine Z55 ?_;refine Z235 ?_;refine Z56 ?_
  exact ⟨by rw [normalS, if_neg h0, if_pos hb2], rfl⟩
 refine Z58 ?_;refine Z150 ?_;refine Z14 ?_;refine Z127 ?_;refine Z55 ?_;refine Z228 ?_;refine Z56 ?_
 exact ⟨by rw [normalS, if_neg h0, if_neg (by rw [hb2]; decide), ← hst], rfl⟩
theorem c305 (f b c : Int) : Pf Tryz.prog 305 [.agg [.int .i64 f, .int .i64 b, .int .i64 c]] (.d (.agg [.int .i64 (turnS f b c).1, .int .i64 (turnS f b c).2.1, .int .i64 (turnS f b c).2.2])) := by
 refine pf_body (rvs := [.cell 2 260]) [(0, .d (.agg [.int .i64 f, .int .i64 b, .int .i64 c]))] Tryz.func305 Tryz.ntmps305 Tryz.results305 (fun S0 O0 w0 m0 hm0 => ?_)
 refine Z232 ?_
 refine gF 0 [] (.agg [.int .i64 f, .int .i64 b, .int .i64 c]) rfl ?_
 refine sv rfl (y_alloc zr260) ?_
 refine Z11 ?_;refine Z182 ?_;refine Z17 ?_;refine Z20 ?_;refine Z10 ?_
 refine gC ?_ ?_ <;> intro hb0
 ·
  refine Z3 ?_
  refine vq rfl (qG (by exact sz260) u260 rfl) ?_
  refine Z170 ?_;refine Z23 ?_;refine Z197 ?_
  exact ⟨by rw [turnS, if_pos hb0], rfl⟩
 refine Z58 ?_
 refine g_cg [7, 8, 9, 10, 11, 12, 13, 14] (fun bq => [cond (bq 8) [.d (.int .i64 (lastS f b c)), .d (.int .i64 (W (0 - b))), .d (.int .i64 c)] [.d (.int .i64 0), .d (.int .i64 0), .d (.int .i64 0)]]) rfl ?_
 refine Z15 ?_
 refine cS 1 (fun _ _ _ _ _ => vq rfl (qG (by exact sz260) u260 rfl) (gN ⟨rfl, rfl⟩)) ?_
 refine Z168 ?_
 refine cS 2 (fun _ _ _ _ _ => gL (xs := [.tmp 7]) rfl (c320 f b c) (gN ⟨rfl, rfl⟩)) ?_
 refine Z15 ?_
 refine cS 3 (fun _ _ _ _ _ => vq rfl (qF u260 rfl sz3) (gN ⟨rfl, rfl⟩)) ?_
 refine Z97 ?_;refine Z144 ?_;refine Z111 ?_
 refine cS 5 (fun _ _ _ _ _ => vq rfl ((q_neg (hr := rfl))) (gN ⟨rfl, rfl⟩)) ?_
 refine Z15 ?_
 refine cS 6 (fun _ _ _ _ _ => vq rfl (qF u260 rfl sz3) (gN ⟨rfl, rfl⟩)) ?_
 refine Z157 ?_
 refine cS 7 (fun _ _ _ _ _ => vq rfl (qL u3) (gN ⟨rfl, rfl⟩)) ?_
 refine cP [1, 4, 6] ?_
 refine cS 8 (fun _ _ _ _ _ => vq rfl (q_buildS pl260 zr260) (gN ⟨rfl, rfl⟩)) ?_
 refine cP [7, 1, 0, 1, 2, 3, 4, 5, 6, 7] ?_
 refine cg_act 9 (fun bq rest hc1 hc2 hc3 => by
  have e2 : upd bq 8 8 = true := rfl
  simp only [hc1, cond_false]
  refine Z170 ?_
  exact (gN ⟨rfl, by rw [e2]; rfl⟩)) ?_
 refine cg_done (mem'' := [[.d (.int .i64 (lastS f b c)), .d (.int .i64 (W (0 - b))), .d (.int .i64 c)]]) ?_
 refine tN (gT ?_)
 refine Z197 ?_
 exact ⟨by rw [turnS, if_neg (by rw [hb0]; decide)], rfl⟩
end
section
theorem check_st {lo hi st : Int} (h : checkS lo hi st = 0) (hle : lo ≤ hi) : st ≠ 0 := by
 rintro rfl
 unfold checkS at h
 split at h
 · rw [if_pos (by simp)] at h
   cases h
 · rename_i hn
   apply hn
   simp
def byN (f b c m : Int) : (Int × Int × Int) × Int := normalS f (W (b * m)) (W ((W (W (c + m) - 1)).tdiv m))
def byS (lo hi st n : Int) : (Int × Int × Int) × Int :=
 if (checkS lo hi st != 0) = true then ((0, 0, 0), checkS lo hi st)
 else if (n == 0) = true then ((0, 0, 0), 1)
 else if (!withinB n) = true then ((0, 0, 0), 4)
 else if n < 0 then byN (turnS (seriesS lo hi st).1 (seriesS lo hi st).2.1 (seriesS lo hi st).2.2).1 (turnS (seriesS lo hi st).1 (seriesS lo hi st).2.1 (seriesS lo hi st).2.2).2.1 (turnS (seriesS lo hi st).1 (seriesS lo hi st).2.1 (seriesS lo hi st).2.2).2.2 (W (0 - n))
 else byN (seriesS lo hi st).1 (seriesS lo hi st).2.1 (seriesS lo hi st).2.2 n
def countS (lo hi st n : Int) : (Int × Int × Int) × Int :=
 if (checkS lo hi st != 0) = true then ((0, 0, 0), checkS lo hi st)
 else if (decide (n > (seriesS lo hi st).2.2) || decide (n < W (0 - (seriesS lo hi st).2.2))) = true then ((0, 0, 0), 5)
 else if n < 0 then normalS (W ((seriesS lo hi st).1 + W ((seriesS lo hi st).2.1 * W ((seriesS lo hi st).2.2 + n)))) (seriesS lo hi st).2.1 (W (0 - n))
 else normalS (seriesS lo hi st).1 (seriesS lo hi st).2.1 n
set_option maxHeartbeats 1000000 in
theorem c246 (lo hi : Int) : Pf Tryz.prog 246 [.int .i64 lo, .int .i64 hi, .int .i64 1] (.tup [.d (.agg [.int .i64 (ofS lo hi).1.1, .int .i64 (ofS lo hi).1.2.1, .int .i64 (ofS lo hi).1.2.2]), .d (.int .i64 (ofS lo hi).2)]) := by
 refine pf_body (rvs := [.cell 6 199, .tmp 7]) [(0, .d (.int .i64 lo)), (1, .d (.int .i64 hi)), (2, .d (.int .i64 1))] Tryz.func246 Tryz.ntmps246 Tryz.results246 (fun S0 O0 w0 m0 hm0 => ?_)
 refine Z3 ?_;refine Z133 ?_;refine Z1 ?_;refine Z206 ?_;refine Z0 ?_;refine Z260 ?_
 refine gC ?_ ?_ <;> intro hb0
 · exact absurd hb0 (by decide)
 refine Z254 ?_
 refine gL (xs := [.tmp 13]) rfl (c303 lo) ?_
 refine Z41 ?_;refine Z249 ?_
 refine g_callg (xs := [.tmp 17]) rfl (fun hg => c303 hi) ?_
 refine sg rfl (fun hg => sP 18 rfl hg q_not) ?_
 refine Z22 ?_;refine Z249 ?_
 refine g_callg (xs := [.tmp 22]) rfl (fun hg => c303 1) ?_
 refine sg rfl (fun hg => sP 23 rfl hg q_not) ?_
 refine Z22 ?_;refine Z234 ?_
 refine gC ?_ ?_ <;> intro hb1
 ·
  refine Z53 ?_
  refine gP [0, 1, 2, 6, 7] ?_
  refine Z14 ?_;refine Z73 ?_;refine Z55 ?_;refine Z242 ?_;refine Z56 ?_
  exact ⟨by rw [ofS, if_pos hb1], rfl⟩
 refine Z53 ?_
 refine gP [0, 1, 2, 6, 7] ?_
 refine Z14 ?_;refine Z231 ?_;refine Z109 ?_;refine Z234 ?_
 refine gC ?_ ?_ <;> intro hb2
 ·
  refine Z3 ?_
  refine vq rfl (q_buildS pl260 zr260) ?_
  refine gL (xs := [.tmp 31]) rfl (c304 0 0 0) ?_
  refine Z265 ?_;refine Z55 ?_;refine Z242 ?_;refine Z56 ?_
  exact ⟨by rw [ofS, if_neg (by rw [hb1]; decide), if_pos (oR hb2)], rfl⟩
 refine Z254 ?_;refine Z40 ?_;refine Z234 ?_
 refine gC ?_ ?_ <;> intro hb3
 · exact absurd hb3 (by decide)
 refine Z91 ?_;refine Z231 ?_;refine Z231 ?_;refine Z219 ?_;refine Z0 ?_
 refine vq rfl (q_quo (show (1 : Int) ≠ 0 by decide) rfl) ?_
 refine Z196 ?_
 refine vq rfl (q_buildS pl260 zr260) ?_
 refine gL (xs := [.tmp 59]) rfl (c304 _ _ _) ?_
 refine Z265 ?_;refine Z55 ?_;refine Z228 ?_;refine Z56 ?_
 exact ⟨by rw [ofS, if_neg (by rw [hb1]; decide), if_neg (of_decide_eq_false hb2)]; rfl, rfl⟩
set_option maxHeartbeats 1000000 in
theorem c249 (lo hi st : Int) (hw : wf64 st) : Pf Tryz.prog 249 [.agg [.int .i64 lo, .int .i64 hi, .int .i64 st]] (.d (.int .i64 (checkS lo hi st))) := by
 refine pf_body (rvs := [.tmp 2]) [(0, .d (.agg [.int .i64 lo, .int .i64 hi, .int .i64 st]))] Tryz.func249 Tryz.ntmps249 Tryz.results249 (fun S0 O0 w0 m0 hm0 => ?_)
 refine Z232 ?_;refine Z120 ?_;refine Z230 ?_;refine Z121 ?_;refine Z73 ?_
 refine vq rfl ((q_structeq (eq_rg lo hi st))) ?_
 refine Z230 ?_;refine Z289 ?_;refine Z289 ?_;refine Z20 ?_;refine Z0 ?_
 refine sg rfl (fun hg => qF u199 rfl sz3) ?_
 refine sg rfl (fun hg => sP 15 rfl hg (qL u3)) ?_
 refine sg rfl (fun hg => sP 16 rfl hg q_eql) ?_
 refine Z12 ?_;refine Z234 ?_
 refine G_seq_cut (α := Unit) (fun _u => ⟨[(1, .d (.ptr (.agg [.int .i64 lo, .int .i64 hi, .int .i64 st]))), (2, .d (.int .i64 0))], []⟩) (fun _u => checkS lo hi st = limS lo hi) (fun Q' hn he hr => ?_) (fun _u h_u => ?_)
 ·
  refine Z53 ?_;refine Z190 ?_;refine Z253 ?_;refine Z41 ?_;refine Z249 ?_
  refine sg rfl (fun hg => sP 22 rfl hg q_not) ?_
  refine Z287 ?_
  refine gC ?_ ?_ <;> intro hb0
  ·
   refine Z153 ?_;refine Z289 ?_;refine Z289 ?_;refine Z99 ?_;refine Z0 ?_
   refine sg rfl (fun hg => qF u199 rfl sz3) ?_
   refine sg rfl (fun hg => sP 31 rfl hg (qL u3)) ?_
   refine sg rfl (fun hg => sP 32 rfl hg q_eql) ?_
   refine Z251 ?_
   refine gC ?_ ?_ <;> intro hb1
   ·
    refine Z53 ?_;refine Z190 ?_;refine Z14 ?_;refine Z235 ?_;refine Z226 ?_;refine Z4 ?_
    exact ⟨by rw [checkS, if_pos hb0, if_pos hb1], rfl⟩
   have hst : st ≠ 0 := by
    rintro rfl
    simp at hb1
   refine Z58 ?_;refine Z190 ?_;refine Z14 ?_;refine Z289 ?_
   refine vq rfl (q_convert u3 u286) ?_
   refine Z234 ?_
   refine G_seq_cut (α := Int) (fun x => ⟨[(1, .d (.ptr (.agg [.int .i64 lo, .int .i64 hi, .int .i64 st]))), (2, .d (.int .i64 0)), (5, .d (.int .u64 x))], []⟩) (fun x => x = stepS st) (fun Q' hn he hr => ?_) (fun x hx => ?_)
   ·
    refine Z3 ?_;refine Z289 ?_;refine Z40 ?_;refine Z10 ?_
    refine gC ?_ ?_ <;> intro hb2
    ·
     refine Z253 ?_;refine Z216 ?_;refine Z1 ?_;refine Z52 ?_
     refine hn _ (U (0 - U st)) (by rw [stepS, if_pos (oR hb2)]) le_of
    refine Z167 ?_
    refine hn _ (U st) (by rw [stepS, if_neg (of_decide_eq_false hb2)]) le_of
   have hx0 : x ≠ 0 := by
    rw [hx]
    unfold stepS
    split
    · rename_i h; exact Un_ne hw h
    · exact U_ne hw hst
   refine Z3 ?_;refine Z289 ?_;refine Z289 ?_;refine Z219 ?_
   refine vq rfl (q_convert u3 u286) ?_
   refine Z0 ?_
   refine vq rfl (q_rem hx0 rfl) ?_
   refine Z261 ?_
   refine gC ?_ ?_ <;> intro hb3
   ·
    refine Z53 ?_;refine Z190 ?_;refine Z14 ?_;refine Z228 ?_;refine Z226 ?_;refine Z4 ?_
    exact ⟨by rw [checkS, if_pos hb0, if_neg (by rw [hb1]; decide), if_pos (by rw [← hx]; exact hb3)], rfl⟩
   refine Z167 ?_
   refine hn _ () (by rw [checkS, if_pos hb0, if_neg (by rw [hb1]; decide), if_neg (by rw [← hx]; show ¬ ((U (W (hi - lo))).tmod x != 0) = true; rw [show ((U (W (hi - lo))).tmod x != 0) = false from hb3]; decide)]) le_of
  refine Z167 ?_
  refine hn _ () (by rw [checkS, if_neg (by rw [hb0]; decide)]) le_of
 skip
 refine Z153 ?_;refine Z289 ?_
 refine gL (xs := [.tmp 53]) rfl (c303 lo) ?_
 refine Z41 ?_;refine Z0 ?_
 refine sg rfl (fun hg => qF u199 rfl sz3) ?_
 refine sg rfl (fun hg => sP 57 rfl hg (qL u3)) ?_
 refine g_callg (xs := [.tmp 58]) rfl (fun hg => c303 hi) ?_
 refine sg rfl (fun hg => sP 59 rfl hg q_not) ?_
 refine Z251 ?_
 refine gC ?_ ?_ <;> intro hb4
 ·
  refine Z53 ?_;refine Z190 ?_;refine Z282 ?_
  exact ⟨by rw [h_u, limS, if_pos hb4], rfl⟩
 refine Z58 ?_;refine Z190 ?_;refine Z14 ?_;refine Z229 ?_
 exact ⟨by rw [h_u, limS, if_neg (by rw [hb4]; decide)], rfl⟩
set_option maxHeartbeats 1000000 in
theorem c250 (lo hi st : Int) (hw : wf64 st) (h0 : lo ≤ hi → st ≠ 0) : Pf Tryz.prog 250 [.agg [.int .i64 lo, .int .i64 hi, .int .i64 st]] (.d (.agg [.int .i64 (seriesS lo hi st).1, .int .i64 (seriesS lo hi st).2.1, .int .i64 (seriesS lo hi st).2.2])) := by
 refine pf_body (rvs := [.cell 2 260]) [(0, .d (.agg [.int .i64 lo, .int .i64 hi, .int .i64 st]))] Tryz.func250 Tryz.ntmps250 Tryz.results250 (fun S0 O0 w0 m0 hm0 => ?_)
 refine Z232 ?_;refine Z120 ?_
 refine sv rfl (y_alloc zr260) ?_
 refine Z206 ?_;refine Z289 ?_;refine Z289 ?_;refine Z109 ?_;refine Z234 ?_
 refine gC ?_ ?_ <;> intro hb0
 ·
  refine Z3 ?_
  refine vq rfl (q_buildS pl260 zr260) ?_
  refine Z170 ?_;refine Z27 ?_;refine Z197 ?_
  exact ⟨by rw [seriesS, if_pos (oR hb0)], rfl⟩
 have hle := of_decide_eq_false hb0
 have hst := h0 (by omega)
 refine Z3 ?_;refine Z289 ?_;refine Z40 ?_;refine Z234 ?_
 refine gC ?_ ?_ <;> intro hb1
 ·
  refine Z53 ?_
  refine gP [0, 1, 2] ?_
  refine g_cg [14, 15, 16, 17, 18, 19, 20, 21, 22, 23, 24, 25, 26, 27, 28] (fun bq => [cond (bq 15) [.d (.int .i64 hi), .d (.int .i64 st), .d (.int .i64 (W (W ((W (hi - lo)).tdiv (W (0 - st))) + 1)))] [.d (.int .i64 0), .d (.int .i64 0), .d (.int .i64 0)]]) rfl ?_
  refine Z15 ?_
  refine cS 1 (fun _ _ _ _ _ => vq rfl (qF u199 rfl sz3) (gN ⟨rfl, rfl⟩)) ?_
  refine Z168 ?_
  refine cS 2 (fun _ _ _ _ _ => vq rfl (qL u3) (gN ⟨rfl, rfl⟩)) ?_
  refine Z15 ?_
  refine cS 3 (fun _ _ _ _ _ => vq rfl (qF u199 rfl sz3) (gN ⟨rfl, rfl⟩)) ?_
  refine Z97 ?_;refine Z144 ?_;refine Z15 ?_
  refine cS 5 (fun _ _ _ _ _ => vq rfl (qF u199 rfl sz3) (gN ⟨rfl, rfl⟩)) ?_
  refine Z77 ?_;refine Z79 ?_;refine Z15 ?_
  refine cS 7 (fun _ _ _ _ _ => vq rfl (qF u199 rfl sz3) (gN ⟨rfl, rfl⟩)) ?_
  refine Z119 ?_
  refine cS 8 (fun _ _ _ _ _ => vq rfl (qL u3) (gN ⟨rfl, rfl⟩)) ?_
  refine cP [5, 7] ?_
  refine cS 9 (fun _ _ _ _ _ => vq rfl (q_sub (hw := rfl)) (gN ⟨rfl, rfl⟩)) ?_
  refine Z15 ?_
  refine cS 10 (fun _ _ _ _ _ => vq rfl (qF u199 rfl sz3) (gN ⟨rfl, rfl⟩)) ?_
  refine cP [9] ?_
  refine cS 11 (fun _ _ _ _ _ => vq rfl (qL u3) (gN ⟨rfl, rfl⟩)) ?_
  refine cP [10] ?_
  refine cS 12 (fun _ _ _ _ _ => vq rfl ((q_neg (hr := rfl))) (gN ⟨rfl, rfl⟩)) ?_
  refine cP [8, 11] ?_
  refine cS 13 (fun _ _ _ _ _ => vq rfl (q_quo (W_neg hw (oR hb1)) rfl) (gN ⟨rfl, rfl⟩)) ?_
  refine cP [12] ?_
  refine cS 14 (fun _ _ _ _ _ => vq rfl (q_add (hw := rfl)) (gN ⟨rfl, rfl⟩)) ?_
  refine cP [1, 3, 13] ?_
  refine cS 15 (fun _ _ _ _ _ => vq rfl (q_buildS pl260 zr260) (gN ⟨rfl, rfl⟩)) ?_
  refine cP [14, 0, 1, 2, 3, 4, 5, 6, 7, 8, 9, 10, 11, 12, 13, 14] ?_
  refine cg_act 16 (fun bq rest hc1 hc2 hc3 => by
   have e2 : upd bq 15 15 = true := rfl
   simp only [hc1, cond_false]
   refine Z170 ?_
   exact (gN ⟨rfl, by rw [e2]; rfl⟩)) ?_
  refine cg_done (mem'' := [[.d (.int .i64 hi), .d (.int .i64 st), .d (.int .i64 (W (W ((W (hi - lo)).tdiv (W (0 - st))) + 1)))]]) ?_
  refine Z218 ?_;refine Z197 ?_
  exact ⟨by rw [seriesS, if_neg hle, if_pos (oR hb1)], rfl⟩
 refine gK (bN (tN (gS ?_)))
 refine gP [0, 1, 2] ?_
 refine g_cg [29, 30, 31, 32, 33, 34, 35, 36, 37, 38, 39, 40, 41, 42] (fun bq => [cond (bq 14) [.d (.int .i64 lo), .d (.int .i64 st), .d (.int .i64 (W (W ((W (hi - lo)).tdiv st) + 1)))] [.d (.int .i64 0), .d (.int .i64 0), .d (.int .i64 0)]]) rfl ?_
 refine Z15 ?_
 refine cS 1 (fun _ _ _ _ _ => vq rfl (qF u199 rfl sz3) (gN ⟨rfl, rfl⟩)) ?_
 refine Z168 ?_
 refine cS 2 (fun _ _ _ _ _ => vq rfl (qL u3) (gN ⟨rfl, rfl⟩)) ?_
 refine Z15 ?_
 refine cS 3 (fun _ _ _ _ _ => vq rfl (qF u199 rfl sz3) (gN ⟨rfl, rfl⟩)) ?_
 refine Z97 ?_;refine Z144 ?_;refine Z15 ?_
 refine cS 5 (fun _ _ _ _ _ => vq rfl (qF u199 rfl sz3) (gN ⟨rfl, rfl⟩)) ?_
 refine Z77 ?_;refine Z79 ?_;refine Z15 ?_
 refine cS 7 (fun _ _ _ _ _ => vq rfl (qF u199 rfl sz3) (gN ⟨rfl, rfl⟩)) ?_
 refine Z119 ?_
 refine cS 8 (fun _ _ _ _ _ => vq rfl (qL u3) (gN ⟨rfl, rfl⟩)) ?_
 refine cP [5, 7] ?_
 refine cS 9 (fun _ _ _ _ _ => vq rfl (q_sub (hw := rfl)) (gN ⟨rfl, rfl⟩)) ?_
 refine Z15 ?_
 refine cS 10 (fun _ _ _ _ _ => vq rfl (qF u199 rfl sz3) (gN ⟨rfl, rfl⟩)) ?_
 refine cP [9] ?_
 refine cS 11 (fun _ _ _ _ _ => vq rfl (qL u3) (gN ⟨rfl, rfl⟩)) ?_
 refine cP [8, 10] ?_
 refine cS 12 (fun _ _ _ _ _ => vq rfl (q_quo hst rfl) (gN ⟨rfl, rfl⟩)) ?_
 refine cP [11] ?_
 refine cS 13 (fun _ _ _ _ _ => vq rfl (q_add (hw := rfl)) (gN ⟨rfl, rfl⟩)) ?_
 refine cP [1, 3, 12] ?_
 refine cS 14 (fun _ _ _ _ _ => vq rfl (q_buildS pl260 zr260) (gN ⟨rfl, rfl⟩)) ?_
 refine cP [13, 0, 1, 2, 3, 4, 5, 6, 7, 8, 9, 10, 11, 12, 13] ?_
 refine cg_act 15 (fun bq rest hc1 hc2 hc3 => by
  have e2 : upd bq 14 14 = true := rfl
  simp only [hc1, cond_false]
  refine Z170 ?_
  exact (gN ⟨rfl, by rw [e2]; rfl⟩)) ?_
 refine cg_done (mem'' := [[.d (.int .i64 lo), .d (.int .i64 st), .d (.int .i64 (W (W ((W (hi - lo)).tdiv st) + 1)))]]) ?_
 refine tN (gT ?_)
 refine Z197 ?_
 exact ⟨by rw [seriesS, if_neg hle, if_neg (of_decide_eq_false hb1)], rfl⟩
theorem c187 (lo hi st : Int) (hw : wf64 st) : Pf Tryz.prog 187 [.agg [.int .i64 lo, .int .i64 hi, .int .i64 st]] (.d (.int .i64 (sizeS lo hi st))) := by
 refine pf_body (rvs := [.tmp 2]) [(0, .d (.agg [.int .i64 lo, .int .i64 hi, .int .i64 st]))] Tryz.func187 Tryz.ntmps187 Tryz.results187 (fun S0 O0 w0 m0 hm0 => ?_)
 refine Z232 ?_;refine Z120 ?_;refine Z233 ?_;refine Z121 ?_
 refine gL (xs := [.tmp 3]) rfl (c249 lo hi st hw) ?_
 refine Z261 ?_
 refine gC ?_ ?_ <;> intro hb0
 ·
  refine Z286 ?_
  exact ⟨by rw [sizeS, if_pos hb0], rfl⟩
 refine Z43 ?_;refine Z121 ?_
 refine gL (xs := [.tmp 6]) rfl (c250 lo hi st hw (check_st (by simpa using hb0))) ?_
 refine vq rfl ((q_field u260 rfl u3)) ?_
 refine Z229 ?_
 exact ⟨by rw [sizeS, if_neg (by rw [hb0]; decide)], rfl⟩
set_option maxHeartbeats 4000000 in
theorem c247 (lo hi st n : Int) (hw : wf64 st) : Pf Tryz.prog 247 [.agg [.int .i64 lo, .int .i64 hi, .int .i64 st], .int .i64 n] (.tup [.d (.agg [.int .i64 (byS lo hi st n).1.1, .int .i64 (byS lo hi st n).1.2.1, .int .i64 (byS lo hi st n).1.2.2]), .d (.int .i64 (byS lo hi st n).2)]) := by
 refine pf_body (rvs := [.cell 4 199, .tmp 5]) [(0, .d (.agg [.int .i64 lo, .int .i64 hi, .int .i64 st])), (1, .d (.int .i64 n))] Tryz.func247 Tryz.ntmps247 Tryz.results247 (fun S0 O0 w0 m0 hm0 => ?_)
 refine Z232 ?_;refine Z120 ?_;refine Z133 ?_;refine Z233 ?_;refine Z121 ?_
 refine gL (xs := [.tmp 8]) rfl (c249 lo hi st hw) ?_
 refine Z1 ?_;refine Z151 ?_;refine Z0 ?_;refine Z57 ?_;refine Z234 ?_
 refine gC ?_ ?_ <;> intro hb0
 ·
  refine Z3 ?_;refine Z73 ?_;refine Z0 ?_;refine Z55 ?_;refine Z242 ?_;refine Z56 ?_
  exact ⟨by rw [byS, if_pos hb0], rfl⟩
 refine Z254 ?_;refine Z260 ?_
 refine gC ?_ ?_ <;> intro hb1
 ·
  refine Z53 ?_;refine Z68 ?_;refine Z14 ?_;refine Z73 ?_;refine Z55 ?_;refine Z242 ?_;refine Z56 ?_
  exact ⟨by rw [byS, if_neg (by rw [hb0]; decide), if_pos hb1], rfl⟩
 refine Z53 ?_;refine Z68 ?_;refine Z253 ?_
 refine gL (xs := [.tmp 20]) rfl (c303 n) ?_
 refine Z41 ?_;refine Z234 ?_
 refine gC ?_ ?_ <;> intro hb2
 ·
  refine Z3 ?_;refine Z73 ?_;refine Z55 ?_;refine Z242 ?_;refine Z56 ?_
  exact ⟨by rw [byS, if_neg (by rw [hb0]; decide), if_neg (by rw [hb1]; decide), if_pos hb2], rfl⟩
 refine Z91 ?_;refine Z121 ?_
 refine gL (xs := [.tmp 24]) rfl (c250 lo hi st hw (check_st (by simpa using hb0))) ?_
 refine sv rfl (y_alloc zr260) ?_
 refine Z170 ?_;refine Z10 ?_
 refine G_seq_cut (α := Int × Int × Int × Int) (fun x => ⟨[(1, .d (.int .i64 x.2.2.2)), (4, .ref 0 0), (7, .ref 1 0)], [[.d (.int .i64 0), .d (.int .i64 0), .d (.int .i64 0)], [.d (.int .i64 x.1), .d (.int .i64 x.2.1), .d (.int .i64 x.2.2.1)]]⟩) (fun x => byS lo hi st n = byN x.1 x.2.1 x.2.2.1 x.2.2.2 ∧ x.2.2.2 ≠ 0) (fun Q' hn he hr => ?_) (fun x hx => ?_)
 ·
  refine Z254 ?_;refine Z40 ?_;refine Z10 ?_
  refine gC ?_ ?_ <;> intro hb3
  ·
   refine Z14 ?_
   refine sv rfl (y_load_agg sz260 u260 rfl) ?_
   refine gL (xs := [.tmp 28]) rfl (c305 _ _ _) ?_
   refine Z0 ?_;refine Z216 ?_;refine Z170 ?_;refine Z1 ?_;refine Z52 ?_
   refine hn _ ((turnS (seriesS lo hi st).1 (seriesS lo hi st).2.1 (seriesS lo hi st).2.2).1, (turnS (seriesS lo hi st).1 (seriesS lo hi st).2.1 (seriesS lo hi st).2.2).2.1, (turnS (seriesS lo hi st).1 (seriesS lo hi st).2.1 (seriesS lo hi st).2.2).2.2, W (0 - n)) ⟨by rw [byS, if_neg (by rw [hb0]; decide), if_neg (by rw [hb1]; decide), if_neg (by rw [hb2]; decide), if_pos (oR hb3)], W_neg (by have := hb2; simp [withinB] at this; unfold wf64; omega) (oR hb3)⟩ le_of
  refine Z167 ?_
  refine hn _ ((seriesS lo hi st).1, (seriesS lo hi st).2.1, (seriesS lo hi st).2.2, n) ⟨by rw [byS, if_neg (by rw [hb0]; decide), if_neg (by rw [hb1]; decide), if_neg (by rw [hb2]; decide), if_neg (of_decide_eq_false hb3)], by show n ≠ 0; simpa using hb1⟩ le_of
 obtain ⟨f, b, c, m⟩ := x
 obtain ⟨hx1, hx2⟩ := hx
 replace hx2 : m ≠ 0 := hx2
 replace hx1 : byS lo hi st n = byN f b c m := hx1
 refine Z53 ?_
 refine g_cg [32, 33, 34, 35, 36, 37, 38, 39, 40, 41, 42, 43, 44, 45, 46, 47, 48, 5] (fun bq => [cond (bq 17) [.d (.int .i64 (byN f b c m).1.1), .d (.int .i64 (byN f b c m).1.2.1), .d (.int .i64 (byN f b c m).1.2.2)] [.d (.int .i64 0), .d (.int .i64 0), .d (.int .i64 0)], [.d (.int .i64 f), .d (.int .i64 b), .d (.int .i64 c)]]) rfl ?_
 refine Z15 ?_
 refine cS 1 (fun _ _ _ _ _ => sv rfl (y_fieldAt 0 u260 rfl sz3) (gN ⟨rfl, rfl⟩)) ?_
 refine Z168 ?_
 refine cS 2 (fun _ _ _ _ _ => sv rfl (y_load_leaf u3) (gN ⟨rfl, rfl⟩)) ?_
 refine Z15 ?_
 refine cS 3 (fun _ _ _ _ _ => sv rfl (y_fieldAt 1 u260 rfl sz3) (gN ⟨rfl, rfl⟩)) ?_
 refine Z97 ?_
 refine cS 4 (fun _ _ _ _ _ => sv rfl (y_load_leaf u3) (gN ⟨rfl, rfl⟩)) ?_
 refine Z15 ?_;refine Z46 ?_
 refine cP [3, 4] ?_
 refine cS 6 (fun _ _ _ _ _ => vq rfl (q_mul (hw := rfl)) (gN ⟨rfl, rfl⟩)) ?_
 refine Z15 ?_
 refine cS 7 (fun _ _ _ _ _ => sv rfl (y_fieldAt 2 u260 rfl sz3) (gN ⟨rfl, rfl⟩)) ?_
 refine Z119 ?_
 refine cS 8 (fun _ _ _ _ _ => sv rfl (y_load_leaf u3) (gN ⟨rfl, rfl⟩)) ?_
 refine Z15 ?_
 refine cS 9 (fun _ _ _ _ _ => vq rfl qM (gN ⟨rfl, rfl⟩)) ?_
 refine cP [7, 8] ?_
 refine cS 10 (fun _ _ _ _ _ => vq rfl (q_add (hw := rfl)) (gN ⟨rfl, rfl⟩)) ?_
 refine cP [9] ?_
 refine cS 11 (fun _ _ _ _ _ => vq rfl (q_sub (hw := rfl)) (gN ⟨rfl, rfl⟩)) ?_
 refine Z15 ?_
 refine cS 12 (fun _ _ _ _ _ => vq rfl qM (gN ⟨rfl, rfl⟩)) ?_
 refine cP [10, 11] ?_
 refine cS 13 (fun _ _ _ _ _ => vq rfl (q_quo hx2 rfl) (gN ⟨rfl, rfl⟩)) ?_
 refine cP [1, 5, 12] ?_
 refine cS 14 (fun _ _ _ _ _ => vq rfl (q_buildS pl260 zr260) (gN ⟨rfl, rfl⟩)) ?_
 refine cP [13] ?_
 refine cS 15 (fun _ _ _ _ _ => gL (xs := [.tmp 45]) rfl (c304 _ _ _) (gN ⟨rfl, rfl⟩)) ?_
 refine cP [14] ?_
 refine cS 16 (fun _ _ _ _ _ => vq rfl qE (gN ⟨rfl, rfl⟩)) ?_
 refine cP [14] ?_
 refine cS 17 (fun _ _ _ _ _ => vq rfl qE (gN ⟨rfl, rfl⟩)) ?_
 refine cP [15, 14, 0, 1, 2, 3, 4, 5, 6, 7, 8, 9, 10, 11, 12, 13, 14, 15, 16] ?_
 refine cg_act 18 (fun bq rest hc1 hc2 hc3 => by
  have e2 : upd bq 17 17 = true := rfl
  simp only [hc1, cond_false]
  refine Z55 ?_
  exact (gN ⟨rfl, by rw [e2]; rfl⟩)) ?_
 refine cP [16, 17, 0, 1, 2, 3, 4, 5, 6, 7, 8, 9, 10, 11, 12, 13, 14, 15, 16, 17] ?_
 refine cS 19 (fun _ _ _ _ _ => vq rfl qA (gN ⟨rfl, rfl⟩)) ?_
 refine cg_done (mem'' := [[.d (.int .i64 (byN f b c m).1.1), .d (.int .i64 (byN f b c m).1.2.1), .d (.int .i64 (byN f b c m).1.2.2)], [.d (.int .i64 f), .d (.int .i64 b), .d (.int .i64 c)]]) ?_
 refine tN (gT ?_)
 refine Z56 ?_
 exact ⟨by rw [hx1]; rfl, rfl⟩
set_option maxHeartbeats 4000000 in
theorem c248 (lo hi st n : Int) (hw : wf64 st) : Pf Tryz.prog 248 [.agg [.int .i64 lo, .int .i64 hi, .int .i64 st], .int .i64 n] (.tup [.d (.agg [.int .i64 (countS lo hi st n).1.1, .int .i64 (countS lo hi st n).1.2.1, .int .i64 (countS lo hi st n).1.2.2]), .d (.int .i64 (countS lo hi st n).2)]) := by
 refine pf_body (rvs := [.cell 4 199, .tmp 5]) [(0, .d (.agg [.int .i64 lo, .int .i64 hi, .int .i64 st])), (1, .d (.int .i64 n))] Tryz.func248 Tryz.ntmps248 Tryz.results248 (fun S0 O0 w0 m0 hm0 => ?_)
 refine Z232 ?_;refine Z120 ?_;refine Z133 ?_;refine Z233 ?_;refine Z121 ?_
 refine gL (xs := [.tmp 8]) rfl (c249 lo hi st hw) ?_
 refine Z277 ?_;refine Z261 ?_
 refine gC ?_ ?_ <;> intro hb0
 ·
  refine Z3 ?_;refine Z73 ?_;refine Z0 ?_;refine Z55 ?_;refine Z235 ?_;refine Z56 ?_
  exact ⟨by rw [countS, if_pos hb0], rfl⟩
 refine Z43 ?_;refine Z121 ?_
 refine gL (xs := [.tmp 14]) rfl (c250 lo hi st hw (check_st (by simpa using hb0))) ?_
 refine sv rfl (y_alloc zr260) ?_
 refine Z170 ?_;refine Z136 ?_;refine Z68 ?_;refine Z253 ?_
 refine sv rfl (y_fieldAt 2 u260 rfl sz3) ?_
 refine Z54 ?_;refine Z109 ?_;refine Z249 ?_
 refine sg rfl (fun hg => q_fieldAddr u260 rfl sz3) ?_
 refine sg rfl (fun hg => sP 22 rfl hg (qO u3)) ?_
 refine sg rfl (fun hg => sP 23 rfl hg (q_neg (hr := rfl))) ?_
 refine sg rfl (fun hg => sP 24 rfl hg (sP 21 rfl hg q_lss)) ?_
 refine Z251 ?_
 refine gC ?_ ?_ <;> intro hb1
 ·
  refine Z3 ?_;refine Z73 ?_;refine Z55 ?_;refine Z235 ?_;refine Z56 ?_
  exact ⟨by rw [countS, if_neg (by rw [hb0]; decide), if_pos (show (decide (n > (seriesS lo hi st).2.2) || decide (n < W (0 - (seriesS lo hi st).2.2))) = true from hb1)], rfl⟩
 refine Z221 ?_
 refine G_seq_cut (α := Int × Int) (fun x => ⟨[(1, .d (.int .i64 x.2)), (4, .ref 0 0), (7, .ref 1 0)], [[.d (.int .i64 0), .d (.int .i64 0), .d (.int .i64 0)], [.d (.int .i64 x.1), .d (.int .i64 (seriesS lo hi st).2.1), .d (.int .i64 (seriesS lo hi st).2.2)]]⟩) (fun x => countS lo hi st n = normalS x.1 (seriesS lo hi st).2.1 x.2) (fun Q' hn he hr => ?_) (fun x hx => ?_)
 ·
  refine Z254 ?_;refine Z40 ?_;refine Z10 ?_
  refine gC ?_ ?_ <;> intro hb2
  ·
   refine Z53 ?_;refine Z68 ?_;refine Z14 ?_
   refine sv rfl (y_fieldAt 0 u260 rfl sz3) ?_
   refine Z54 ?_
   refine sv rfl (y_fieldAt 1 u260 rfl sz3) ?_
   refine Z54 ?_
   refine sv rfl (y_fieldAt 2 u260 rfl sz3) ?_
   refine Z54 ?_;refine Z0 ?_;refine Z196 ?_
   refine vq rfl (q_mul (hw := rfl)) ?_
   refine Z196 ?_
   refine sv rfl (y_fieldAt 0 u260 rfl sz3) ?_
   refine Z148 ?_;refine Z10 ?_;refine Z68 ?_;refine Z253 ?_;refine Z216 ?_;refine Z1 ?_;refine Z52 ?_
   refine hn _ (W ((seriesS lo hi st).1 + W ((seriesS lo hi st).2.1 * W ((seriesS lo hi st).2.2 + n))), W (0 - n)) (by rw [countS, if_neg (by rw [hb0]; decide), if_neg (by show ¬ (_ || _) = true; rw [show (decide (n > (seriesS lo hi st).2.2) || decide (n < W (0 - (seriesS lo hi st).2.2))) = false from hb1]; decide), if_pos (oR hb2)]) le_of
  refine Z167 ?_
  refine hn _ ((seriesS lo hi st).1, n) (by rw [countS, if_neg (by rw [hb0]; decide), if_neg (by show ¬ (_ || _) = true; rw [show (decide (n > (seriesS lo hi st).2.2) || decide (n < W (0 - (seriesS lo hi st).2.2))) = false from hb1]; decide), if_neg (of_decide_eq_false hb2)]) le_of
 obtain ⟨f, m⟩ := x
 replace hx : countS lo hi st n = normalS f (seriesS lo hi st).2.1 m := hx
 refine Z53 ?_;refine Z68 ?_;refine Z253 ?_
 refine sv rfl (y_fieldAt 2 u260 rfl sz3) ?_
 refine Z148 ?_;refine Z5 ?_
 refine sv rfl (y_load_agg sz260 u260 rfl) ?_
 refine gL (xs := [.tmp 45]) rfl (c304 _ _ _) ?_
 refine Z265 ?_;refine Z55 ?_;refine Z228 ?_;refine Z56 ?_
 exact ⟨by rw [hx], rfl⟩
end
end Go.Proofs.YtklkbfpjimeaoaaGreat
