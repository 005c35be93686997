import Derived.Test.YtklkbfpjimeaoaaM20
import Derived.ChangeKeysEq
import Derived.Laws.Closers25b
import Derived.Test.YtklkbfpjimeaoaaM11
/- Contracts of functions. Conditions: none. -/
set_option linter.unusedSimpArgs false
set_option linter.unusedVariables false
set_option maxRecDepth 20000
namespace Go.Proofs.Ytklkbfpjimeaoaa
open Go Go.Proofs.Ytklkbfpjimeaoaa.E
section
def rightB : Tr → Bool
 | .mk op name num ks =>
  if (otherB (.mk op name num ks)).2 = true then (otherB (.mk op name num ks)).1
  else match shGet op with
   | none => false
   | some ⟨nm, nb, _, _, ok⟩ =>
    if (op == 0 || (!nb && num != 0)) = true then false
    else if (match nm with | none => decide (name ≠ ⟨#[]⟩) | some x => !hasB (x.1 :: x.2) name) = true then false else ok (.mk op name num ks)
theorem shGet_names {op : Int} {a : ByteArray} {l : List ByteArray} {nb : Bool} {g : Nat} {caps : List D} {ok : Tr → Bool} (h : shGet op = some ⟨some (a, l), nb, g, caps, ok⟩) : (a :: l).length ≤ 100 := by
 have hall : ∀ x ∈ shapeTab, (match x.2.names with | some y => decide ((y.1 :: y.2).length ≤ 100) | none => true) = true := by
  intro x hx
  simp only [shapeTab, List.mem_cons, List.not_mem_nil, or_false] at hx
  rcases hx with rfl | rfl | rfl | rfl | rfl | rfl | rfl | rfl | rfl | rfl | rfl | rfl | rfl | rfl | rfl | rfl | rfl | rfl | rfl | rfl | rfl | rfl | rfl | rfl | rfl | rfl | rfl | rfl | rfl | rfl | rfl | rfl | rfl <;> rfl
 unfold shGet at h
 cases hf : shapeTab.find? (fun x => decide (x.1 = op)) with
 | none => rw [hf] at h; cases h
 | some x =>
  rw [hf] at h
  injection h with h
  replace h : x.2 = _ := h
  have := hall x (List.mem_of_find?_eq_some hf)
  rw [h] at this
  exact of_decide_eq_true this
set_option maxHeartbeats 8000000 in
theorem c165 (t : Tr) (hok : t.Ok) : Pf Try.prog 65 [t.d, .map shapesM] (.d (.bool (rightB t))) := by
 obtain ⟨op, name, num, ks⟩ := t
 rw [Tr.d_mk]
 try simp only [Tr.op_mk, Tr.nm_mk, Tr.nu_mk, Tr.kids_mk]
 refine pf_body (rvs := [.tmp 4]) [(0, .d (.agg [.int .i64 op, .str name, .int .i64 num, .sl (ks.map Tr.d)])), (1, .d (.map shapesM))] Try.func65 Try.ntmps65 Try.results65 (fun S0 O0 w0 m0 hm0 => ?_)
 refine Z92 ?_;refine Z96 ?_
 first | refine sv rfl (y_load_agg sz27 u27 rfl) ?_ | refine vq rfl (qG (by exact sz27) u27 rfl) ?_
 refine gL (xs := [.tmp 10]) rfl ((Tr.d_mk op name num ks ▸ c234 (.mk op name num ks) hok)) ?_
 refine Z1 ?_;refine Z43 ?_;refine Z43 ?_;refine Z2 ?_;refine Z90 ?_;refine Z12 ?_
 refine zgC ?_ ?_ <;> intro hb0
 ·
  refine Z101 ?_;refine Z102 ?_
  exact ⟨by rw [rightB, if_pos hb0], rfl⟩
 refine Z66 ?_
 rcases hsh : shGet op with _ | ⟨_ | ⟨na, nl⟩, nb, g, caps, ok⟩
 ·
  refine Z22 ?_;refine Z1 ?_
  first | refine sv rfl (y_fieldAt 0 u27 rfl sz3) ?_ | refine vq rfl (q_fieldAddr u27 rfl sz3) ?_ | refine vq rfl (qF u27 rfl sz3) ?_
  first | refine sv rfl (y_load_leaf u3) ?_ | refine vq rfl (qL u3) ?_
  refine Z64 ?_
  rw [mget_sh, mhas_sh, hsh]
  dsimp only [Sh.d, namesD, List.map_cons, Option.isSome]
  refine Z1 ?_;refine Z43 ?_;refine Z43 ?_
  refine sv rfl (y_alloc zr107) ?_
  first | refine sa rfl (dS sz107) ?_ | refine sa rfl (d_store_take sz107) ?_
  refine Z2 ?_
  refine gN (tN (zgS (zgS ?_)))
  refine Z117 ?_;refine Z1 ?_;refine Z47 ?_;refine Z1 ?_
  first | refine sg rfl (fun hg => q_fieldAddr u27 rfl sz3) ?_ | refine sg rfl (fun hg => qF u27 rfl sz3) ?_
  first | refine sg rfl (fun hg => sP 26 rfl hg (qO u3)) ?_ | refine sg rfl (fun hg => sP 26 rfl hg (qL u3)) ?_
  refine sg rfl (fun hg => sP 27 rfl hg q_eql) ?_
  refine Z16 ?_;refine Z1 ?_
  first | refine sg rfl (fun hg => q_fieldAddr u107 rfl sz4) ?_ | refine sg rfl (fun hg => qF u107 rfl sz4) ?_
  first | refine sg rfl (fun hg => sP 31 rfl hg (qO u4)) ?_ | refine sg rfl (fun hg => sP 31 rfl hg (qL u4)) ?_
  refine sg rfl (fun hg => sP 32 rfl hg q_not) ?_
  refine sg rfl (fun hg => sP 33 rfl hg qM) ?_
  first | refine sg rfl (fun hg => q_fieldAddr u27 rfl sz3) ?_ | refine sg rfl (fun hg => qF u27 rfl sz3) ?_
  first | refine sg rfl (fun hg => sP 35 rfl hg (qO u3)) ?_ | refine sg rfl (fun hg => sP 35 rfl hg (qL u3)) ?_
  refine sg rfl (fun hg => sP 36 rfl hg q_neq) ?_
  refine sg rfl (fun hg => sP 34 rfl hg q_and) ?_
  refine Z111 ?_
  refine zgC ?_ ?_ <;> intro hb1
  ·
   refine Z49 ?_;refine Z117 ?_;refine Z102 ?_
   exact ⟨by rw [rightB, if_neg (by rw [hb0]; decide), hsh], rfl⟩
  exact absurd hb1 (by simp)
 ·
  refine Z22 ?_;refine Z1 ?_
  first | refine sv rfl (y_fieldAt 0 u27 rfl sz3) ?_ | refine vq rfl (q_fieldAddr u27 rfl sz3) ?_ | refine vq rfl (qF u27 rfl sz3) ?_
  first | refine sv rfl (y_load_leaf u3) ?_ | refine vq rfl (qL u3) ?_
  refine Z64 ?_
  rw [mget_sh, mhas_sh, hsh]
  dsimp only [Sh.d, namesD, List.map_cons, Option.isSome]
  refine Z1 ?_;refine Z43 ?_;refine Z43 ?_
  refine sv rfl (y_alloc zr107) ?_
  first | refine sa rfl (dS sz107) ?_ | refine sa rfl (d_store_take sz107) ?_
  refine Z2 ?_
  refine gN (tN (zgS (zgS ?_)))
  refine Z117 ?_;refine Z1 ?_;refine Z47 ?_;refine Z1 ?_
  first | refine sg rfl (fun hg => q_fieldAddr u27 rfl sz3) ?_ | refine sg rfl (fun hg => qF u27 rfl sz3) ?_
  first | refine sg rfl (fun hg => sP 26 rfl hg (qO u3)) ?_ | refine sg rfl (fun hg => sP 26 rfl hg (qL u3)) ?_
  refine sg rfl (fun hg => sP 27 rfl hg q_eql) ?_
  refine Z16 ?_;refine Z1 ?_
  first | refine sg rfl (fun hg => q_fieldAddr u107 rfl sz4) ?_ | refine sg rfl (fun hg => qF u107 rfl sz4) ?_
  first | refine sg rfl (fun hg => sP 31 rfl hg (qO u4)) ?_ | refine sg rfl (fun hg => sP 31 rfl hg (qL u4)) ?_
  refine sg rfl (fun hg => sP 32 rfl hg q_not) ?_
  refine sg rfl (fun hg => sP 33 rfl hg qM) ?_
  first | refine sg rfl (fun hg => q_fieldAddr u27 rfl sz3) ?_ | refine sg rfl (fun hg => qF u27 rfl sz3) ?_
  first | refine sg rfl (fun hg => sP 35 rfl hg (qO u3)) ?_ | refine sg rfl (fun hg => sP 35 rfl hg (qL u3)) ?_
  refine sg rfl (fun hg => sP 36 rfl hg q_neq) ?_
  refine sg rfl (fun hg => sP 34 rfl hg q_and) ?_
  refine Z111 ?_
  refine zgC ?_ ?_ <;> intro hb2
  ·
   refine Z49 ?_;refine Z117 ?_;refine Z102 ?_
   exact ⟨by rw [rightB, if_neg (by rw [hb0]; decide), hsh]; dsimp only; rw [if_pos (by simpa using hb2)], rfl⟩
  refine gK (tN (zgS (zgS ?_)))
  refine Z117 ?_
  first | refine sv rfl (y_fieldAt 0 u107 rfl sz40) ?_ | refine vq rfl (q_fieldAddr u107 rfl sz40) ?_ | refine vq rfl (qF u107 rfl sz40) ?_
  first | refine sv rfl (y_load_leaf u40) ?_ | refine vq rfl (qL u40) ?_
  refine vq rfl ((q_sleql u40)) ?_
  refine Z1 ?_
  first | refine sg rfl (fun hg => q_fieldAddr u27 rfl sz9) ?_ | refine sg rfl (fun hg => qF u27 rfl sz9) ?_
  first | refine sg rfl (fun hg => sP 44 rfl hg (qO u9)) ?_ | refine sg rfl (fun hg => sP 44 rfl hg (qL u9)) ?_
  refine sg rfl (fun hg => sP 45 rfl hg q_strne) ?_
  refine Z18 ?_;refine Z1 ?_
  first | refine sg rfl (fun hg => q_fieldAddr u107 rfl sz40) ?_ | refine sg rfl (fun hg => qF u107 rfl sz40) ?_
  first | refine sg rfl (fun hg => sP 49 rfl hg (qO u40)) ?_ | refine sg rfl (fun hg => sP 49 rfl hg (qL u40)) ?_
  refine sg rfl (fun hg => sP 50 rfl hg (q_slneq u40)) ?_
  refine sg rfl (fun hg => sP 51 rfl hg qM) ?_
  first | refine sg rfl (fun hg => q_fieldAddr u107 rfl sz40) ?_ | refine sg rfl (fun hg => qF u107 rfl sz40) ?_
  first | refine sg rfl (fun hg => sP 53 rfl hg (qO u40)) ?_ | refine sg rfl (fun hg => sP 53 rfl hg (qL u40)) ?_
  first | refine sg rfl (fun hg => q_fieldAddr u27 rfl sz9) ?_ | refine sg rfl (fun hg => qF u27 rfl sz9) ?_
  first | refine sg rfl (fun hg => sP 55 rfl hg (qO u9)) ?_ | refine sg rfl (fun hg => sP 55 rfl hg (qL u9)) ?_
  refine sgx rfl ?_ ?_
  · simp
  refine sg rfl (fun hg => sP 57 rfl hg q_not) ?_
  refine sg rfl (fun hg => sP 52 rfl hg q_and) ?_
  refine Z111 ?_
  refine zgC ?_ ?_ <;> intro hb3
  ·
   refine Z49 ?_;refine Z117 ?_;refine Z102 ?_
   exact ⟨by rw [rightB, if_neg (by rw [hb0]; decide), hsh]; dsimp only; rw [if_neg (by simpa using hb2), if_pos (by simpa using hb3)], rfl⟩
  refine Z66 ?_;refine Z117 ?_
  first | refine sv rfl (y_fieldAt 2 u107 rfl sz53) ?_ | refine vq rfl (q_fieldAddr u107 rfl sz53) ?_ | refine vq rfl (qF u107 rfl sz53) ?_
  first | refine sv rfl (y_load_leaf u53) ?_ | refine vq rfl (qL u53) ?_
  first | refine sv rfl (y_load_agg sz27 u27 rfl) ?_ | refine vq rfl (qG (by exact sz27) u27 rfl) ?_
  refine gL (xs := [.tmp 63]) rfl ((Tr.d_mk op name num ks ▸ shGet_ok hsh hok)) ?_
  refine Z85 ?_
  exact ⟨by rw [rightB, if_neg (by rw [hb0]; decide), hsh]; dsimp only; rw [if_neg (by simpa using hb2), if_neg (by simpa using hb3)], rfl⟩
 refine Z22 ?_;refine Z1 ?_
 first | refine sv rfl (y_fieldAt 0 u27 rfl sz3) ?_ | refine vq rfl (q_fieldAddr u27 rfl sz3) ?_ | refine vq rfl (qF u27 rfl sz3) ?_
 first | refine sv rfl (y_load_leaf u3) ?_ | refine vq rfl (qL u3) ?_
 refine Z64 ?_
 rw [mget_sh, mhas_sh, hsh]
 dsimp only [Sh.d, namesD, List.map_cons, Option.isSome]
 refine Z1 ?_;refine Z43 ?_;refine Z43 ?_
 refine sv rfl (y_alloc zr107) ?_
 first | refine sa rfl (dS sz107) ?_ | refine sa rfl (d_store_take sz107) ?_
 refine Z2 ?_
 refine gN (tN (zgS (zgS ?_)))
 refine Z117 ?_;refine Z1 ?_;refine Z47 ?_;refine Z1 ?_
 first | refine sg rfl (fun hg => q_fieldAddr u27 rfl sz3) ?_ | refine sg rfl (fun hg => qF u27 rfl sz3) ?_
 first | refine sg rfl (fun hg => sP 26 rfl hg (qO u3)) ?_ | refine sg rfl (fun hg => sP 26 rfl hg (qL u3)) ?_
 refine sg rfl (fun hg => sP 27 rfl hg q_eql) ?_
 refine Z16 ?_;refine Z1 ?_
 first | refine sg rfl (fun hg => q_fieldAddr u107 rfl sz4) ?_ | refine sg rfl (fun hg => qF u107 rfl sz4) ?_
 first | refine sg rfl (fun hg => sP 31 rfl hg (qO u4)) ?_ | refine sg rfl (fun hg => sP 31 rfl hg (qL u4)) ?_
 refine sg rfl (fun hg => sP 32 rfl hg q_not) ?_
 refine sg rfl (fun hg => sP 33 rfl hg qM) ?_
 first | refine sg rfl (fun hg => q_fieldAddr u27 rfl sz3) ?_ | refine sg rfl (fun hg => qF u27 rfl sz3) ?_
 first | refine sg rfl (fun hg => sP 35 rfl hg (qO u3)) ?_ | refine sg rfl (fun hg => sP 35 rfl hg (qL u3)) ?_
 refine sg rfl (fun hg => sP 36 rfl hg q_neq) ?_
 refine sg rfl (fun hg => sP 34 rfl hg q_and) ?_
 refine Z111 ?_
 refine zgC ?_ ?_ <;> intro hb4
 ·
  refine Z49 ?_;refine Z117 ?_;refine Z102 ?_
  exact ⟨by rw [rightB, if_neg (by rw [hb0]; decide), hsh]; dsimp only; rw [if_pos (by simpa using hb4)], rfl⟩
 refine gK (tN (zgS (zgS ?_)))
 refine Z117 ?_
 first | refine sv rfl (y_fieldAt 0 u107 rfl sz40) ?_ | refine vq rfl (q_fieldAddr u107 rfl sz40) ?_ | refine vq rfl (qF u107 rfl sz40) ?_
 first | refine sv rfl (y_load_leaf u40) ?_ | refine vq rfl (qL u40) ?_
 refine vq rfl ((q_sleql u40)) ?_
 refine Z1 ?_
 first | refine sg rfl (fun hg => q_fieldAddr u27 rfl sz9) ?_ | refine sg rfl (fun hg => qF u27 rfl sz9) ?_
 first | refine sg rfl (fun hg => sP 44 rfl hg (qO u9)) ?_ | refine sg rfl (fun hg => sP 44 rfl hg (qL u9)) ?_
 refine sg rfl (fun hg => sP 45 rfl hg q_strne) ?_
 refine Z18 ?_;refine Z1 ?_
 first | refine sg rfl (fun hg => q_fieldAddr u107 rfl sz40) ?_ | refine sg rfl (fun hg => qF u107 rfl sz40) ?_
 first | refine sg rfl (fun hg => sP 49 rfl hg (qO u40)) ?_ | refine sg rfl (fun hg => sP 49 rfl hg (qL u40)) ?_
 refine sg rfl (fun hg => sP 50 rfl hg (q_slneq u40)) ?_
 refine sg rfl (fun hg => sP 51 rfl hg qM) ?_
 first | refine sg rfl (fun hg => q_fieldAddr u107 rfl sz40) ?_ | refine sg rfl (fun hg => qF u107 rfl sz40) ?_
 first | refine sg rfl (fun hg => sP 53 rfl hg (qO u40)) ?_ | refine sg rfl (fun hg => sP 53 rfl hg (qL u40)) ?_
 first | refine sg rfl (fun hg => q_fieldAddr u27 rfl sz9) ?_ | refine sg rfl (fun hg => qF u27 rfl sz9) ?_
 first | refine sg rfl (fun hg => sP 55 rfl hg (qO u9)) ?_ | refine sg rfl (fun hg => sP 55 rfl hg (qL u9)) ?_
 refine g_callg (xs := [.tmp 54, .tmp 56]) rfl (fun hg => c199 (na :: nl) name (by have := shGet_names hsh; omega)) ?_
 refine sg rfl (fun hg => sP 57 rfl hg q_not) ?_
 refine sg rfl (fun hg => sP 52 rfl hg q_and) ?_
 refine Z111 ?_
 refine zgC ?_ ?_ <;> intro hb5
 ·
  refine Z49 ?_;refine Z117 ?_;refine Z102 ?_
  exact ⟨by rw [rightB, if_neg (by rw [hb0]; decide), hsh]; dsimp only; rw [if_neg (by simpa using hb4), if_pos (by simpa using hb5)], rfl⟩
 refine Z66 ?_;refine Z117 ?_
 first | refine sv rfl (y_fieldAt 2 u107 rfl sz53) ?_ | refine vq rfl (q_fieldAddr u107 rfl sz53) ?_ | refine vq rfl (qF u107 rfl sz53) ?_
 first | refine sv rfl (y_load_leaf u53) ?_ | refine vq rfl (qL u53) ?_
 first | refine sv rfl (y_load_agg sz27 u27 rfl) ?_ | refine vq rfl (qG (by exact sz27) u27 rfl) ?_
 refine gL (xs := [.tmp 63]) rfl ((Tr.d_mk op name num ks ▸ shGet_ok hsh hok)) ?_
 refine Z85 ?_
 exact ⟨by rw [rightB, if_neg (by rw [hb0]; decide), hsh]; dsimp only; rw [if_neg (by simpa using hb4), if_neg (by simpa using hb5)], rfl⟩
end
section
mutual
/-- All nodes of a tree are right. -/
def Tr.shaped : Tr → Bool
 | .mk op name num ks => rightB (.mk op name num ks) && Tr.shapeds ks
def Tr.shapeds : List Tr → Bool
 | [] => true
 | k :: ks => k.shaped && Tr.shapeds ks
end
theorem Tr.shapeds_all : ∀ ks : List Tr, Tr.shapeds ks = !(ks.any fun k => !k.shaped)
 | [] => rfl
 | k :: ks => by rw [Tr.shapeds, Tr.shapeds_all ks, List.any_cons]; cases k.shaped <;> simp
mutual
def Tr.depth : Tr → Int
 | .mk _ _ _ ks => Tr.deeps ks 0 + 1
def Tr.deeps : List Tr → Int → Int
 | [], d => d
 | k :: ks, d => Tr.deeps ks (if k.depth > d then k.depth else d)
end
mutual
theorem Tr.depth_bd : ∀ t : Tr, 1 ≤ t.depth ∧ t.depth ≤ t.size
 | .mk _ _ _ ks => by
  rw [Tr.depth, Tr.size]
  have := Tr.deeps_bd ks 0
  omega
theorem Tr.deeps_bd : ∀ (ks : List Tr) (d : Int), d ≤ Tr.deeps ks d ∧ (Tr.deeps ks d ≤ d ∨ Tr.deeps ks d ≤ Tr.sizes ks)
 | [], d => by rw [Tr.deeps]; omega
 | k :: ks, d => by
  rw [Tr.deeps, Tr.sizes]
  have h1 := Tr.depth_bd k
  have h2 := Tr.deeps_bd ks (if k.depth > d then k.depth else d)
  split at h2 <;> rename_i h <;> first | rw [if_pos h] | rw [if_neg h]
  all_goals omega
end
theorem Tr.deeps_drop {ks : List Tr} {z : Nat} {k : Tr} (h : ks[z]? = some k) (d : Int) : Tr.deeps (ks.drop z) d = Tr.deeps (ks.drop (z + 1)) (if k.depth > d then k.depth else d) := by
 obtain ⟨hlt, rfl⟩ := List.getElem?_eq_some_iff.1 h
 rw [List.drop_eq_getElem_cons hlt, Tr.deeps]
theorem Tr.sizes_drop {ks : List Tr} {z : Nat} {k : Tr} (h : ks[z]? = some k) : Tr.sizes (ks.drop z) = k.size + Tr.sizes (ks.drop (z + 1)) := by
 obtain ⟨hlt, rfl⟩ := List.getElem?_eq_some_iff.1 h
 rw [List.drop_eq_getElem_cons hlt, Tr.sizes]
theorem Tr.ds_one (op : Int) (name : ByteArray) (num : Int) (ks : List Tr) : [Tr.mk op name num ks].map Tr.d = [.agg [.int .i64 op, .str name, .int .i64 num, .sl (ks.map Tr.d)]] := by rw [List.map_cons, Tr.d_mk]; rfl
theorem c166 (t : Tr) (h : Pf Try.prog 48 [t.d, .map shapesM] (.d (.bool t.shaped))) : Pf Try.prog 66 [t.d, .ptr (.map shapesM)] (.d (.bool (!t.shaped))) := by
 obtain ⟨op, name, num, ks⟩ := t
 rw [Tr.d_mk]
 try simp only [Tr.op_mk, Tr.nm_mk, Tr.nu_mk, Tr.kids_mk]
 refine pf_body (rvs := [.tmp 3]) [(0, .d (.agg [.int .i64 op, .str name, .int .i64 num, .sl (ks.map Tr.d)])), (1, .d (.ptr (.map shapesM)))] Try.func66 Try.ntmps66 Try.results66 (fun S0 O0 w0 m0 hm0 => ?_)
 refine Z110 ?_
 first | refine sv rfl (y_load_agg sz27 u27 rfl) ?_ | refine vq rfl (qG (by exact sz27) u27 rfl) ?_
 first | refine sv rfl (y_load_leaf u93) ?_ | refine vq rfl (qL u93) ?_
 refine gL (xs := [.tmp 4, .tmp 5]) rfl ((Tr.d_mk op name num ks ▸ h)) ?_
 refine Z47 ?_;refine Z85 ?_
 exact ⟨rfl, rfl⟩
theorem c88n : ∀ (n : Nat) (t : Tr), t.size ≤ n → t.Ok → Pf Try.prog 48 [t.d, .map shapesM] (.d (.bool t.shaped)) := by
 intro n
 induction n with
 | zero => intro t h; exact absurd t.size_pos (by omega)
 | succ n ih =>
  intro t hsz hok
  obtain ⟨op, name, num, ks⟩ := t
  have hkd : ∀ k ∈ ks, k.size ≤ n := fun k hk => by
   have := Tr.size_mem hk
   rw [Tr.size] at hsz
   omega
  rw [Tr.d_mk]
  have hok' := hok
  cases hok' with | mk h1 h2 h3 h4 h5 =>
  refine pf_body (rvs := [.tmp 4]) [(0, .d (.agg [.int .i64 op, .str name, .int .i64 num, .sl (ks.map Tr.d)])), (1, .d (.map shapesM))] Try.func48 Try.ntmps48 Try.results48 (fun S0 O0 w0 m0 hm0 => ?_)
  refine Z92 ?_;refine Z19 ?_
  refine gF 0 [] (.map shapesM) rfl ?_
  refine Z84 ?_
  first | refine sv rfl (y_load_agg sz27 u27 rfl) ?_ | refine vq rfl (qG (by exact sz27) u27 rfl) ?_
  first | refine sv rfl (y_load_leaf u93) ?_ | refine vq rfl (qL u93) ?_
  refine gL (xs := [.tmp 5, .tmp 6]) rfl ((Tr.d_mk op name num ks ▸ c165 (.mk op name num ks) hok)) ?_
  refine Z1 ?_
  first | refine sg rfl (fun hg => q_fieldAddr u27 rfl sz22) ?_ | refine sg rfl (fun hg => qF u27 rfl sz22) ?_
  first | refine sg rfl (fun hg => sP 9 rfl hg (qO u22)) ?_ | refine sg rfl (fun hg => sP 9 rfl hg (qL u22)) ?_
  refine sg rfl (fun hg => q_makeFunc (xs := []) (ys := [.tmp 3])) ?_
  refine g_callg (xs := [.tmp 10, .tmp 11]) rfl (fun hg => c52 ks 66 [] [.ptr (.map shapesM)] (fun k => !k.shaped) h4 (fun x hx => c166 x (ih x (hkd x hx) (h5 x hx)))) ?_
  refine sg rfl (fun hg => sP 12 rfl hg q_not) ?_
  refine Z114 ?_
  exact ⟨by rw [Tr.shaped, Tr.shapeds_all], rfl⟩
set_option maxHeartbeats 4000000 in
theorem c151n : ∀ (n : Nat) (t : Tr), t.size ≤ n → t.Ok → t.size ≤ 1000000000 → Pf Try.prog 64 [t.d] (.tup [.d (.int .i64 t.size), .d (.int .i64 t.depth)]) := by
 intro n
 induction n with
 | zero => intro t h; exact absurd t.size_pos (by omega)
 | succ n ih =>
  intro t hsz hok hszb
  obtain ⟨op, name, num, ks⟩ := t
  have hkd : ∀ k ∈ ks, k.size ≤ n := fun k hk => by
   have := Tr.size_mem hk
   rw [Tr.size] at hsz
   omega
  rw [Tr.d_mk]
  cases hok with | mk h1 h2 h3 h4 h5 =>
  have hln := Tr.len_sizes ks
  rw [Tr.size] at hszb
  refine pf_body (rvs := [.tmp 2, .tmp 3]) [(0, .d (.agg [.int .i64 op, .str name, .int .i64 num, .sl (ks.map Tr.d)]))] Try.func64 Try.ntmps64 Try.results64 (fun S0 O0 w0 m0 hm0 => ?_)
  refine Z92 ?_;refine Z2 ?_;refine Z96 ?_
  first | refine sv rfl (y_fieldAt 3 u27 rfl sz22) ?_ | refine vq rfl (q_fieldAddr u27 rfl sz22) ?_ | refine vq rfl (qF u27 rfl sz22) ?_
  first | refine sv rfl (y_load_leaf u22) ?_ | refine vq rfl (qL u22) ?_
  refine Z39 ?_;refine Z105 ?_
  refine g_loop (α := Nat × Int × Int) (fun z => ⟨[(11, .d (.int .i64 (z.1 : Nat))), (10, .d (.int .i64 ((ks.map Tr.d).length : Nat))), (9, .d (.sl (ks.map Tr.d))), (2, .d (.int .i64 z.2.1)), (3, .d (.int .i64 z.2.2))], []⟩) (fun z => ks.length - z.1) (fun z => z.1 ≤ ks.length ∧ 0 ≤ z.2.1 ∧ z.2.1 + Tr.sizes (ks.drop z.1) = Tr.sizes ks ∧ 0 ≤ z.2.2 ∧ z.2.2 ≤ Tr.sizes ks ∧ Tr.deeps (ks.drop z.1) z.2.2 = Tr.deeps ks 0) (0, 0, 0) ⟨Nat.zero_le _, by show (0 : Int) ≤ 0; omega, by show (0 : Int) + _ = _; simp, by show (0 : Int) ≤ 0; omega, by show (0 : Int) ≤ _; omega, rfl⟩ (fun z hz Q' hn0 he0 hr0 => ?_) (le_of)
  obtain ⟨z, c, e⟩ := z
  obtain ⟨hz1, hc1, hc2, hc3, hc4, hc5⟩ := hz
  replace hz1 : z ≤ ks.length := hz1
  replace hc1 : 0 ≤ c := hc1
  replace hc2 : c + Tr.sizes (ks.drop z) = Tr.sizes ks := hc2
  replace hc3 : 0 ≤ e := hc3
  replace hc4 : e ≤ Tr.sizes ks := hc4
  replace hc5 : Tr.deeps (ks.drop z) e = Tr.deeps ks 0 := hc5
  refine Z107 ?_
  refine zgC ?_ ?_ <;> intro hb0
  ·
   have hlt : z < ks.length := by simpa using hb0
   obtain ⟨k, hk⟩ : ∃ k, ks[z]? = some k := ⟨_, gE hlt⟩
   have hmem := mG hk
   have hxd := Tr.ds_get hk
   have hxa := hxd
   obtain ⟨kop, knm, knu, kks, hka⟩ := k.d_agg
   rw [hka] at hxa
   have hsd := Tr.sizes_drop hk
   have hdb := Tr.depth_bd k
   have hsm := Tr.size_mem hmem
   refine Z25 ?_;refine Z68 ?_
   first | refine sv rfl (y_load_agg sz27 u27 rfl) ?_ | refine vq rfl (qG (by exact sz27) u27 rfl) ?_
   refine Z62 ?_
   first | refine sa rfl (dS sz27) ?_ | refine sa rfl (d_store_take sz27) ?_
   refine Z48 ?_;refine Z7 ?_
   first | refine sv rfl (y_load_agg sz27 u27 rfl) ?_ | refine vq rfl (qG (by exact sz27) u27 rfl) ?_
   refine gL (xs := [.tmp 16]) rfl ((hka ▸ ih k (hkd k hmem) (h5 k hmem) (by omega))) ?_
   refine Z1 ?_;refine Z43 ?_;refine Z43 ?_;refine Z2 ?_;refine Z2 ?_;refine Z35 ?_
   refine gP [0, 1, 2, 3, 5, 6, 7, 9, 10, 11] ?_
   refine Z22 ?_;refine Z108 ?_;refine Z15 ?_;refine Z2 ?_
   refine gN (tN (gR ?_))
   refine Z108 ?_
   refine sv rfl (Yld_pure rfl (oR rfl) q_max) ?_
   refine Z2 ?_
   refine gN (bN (tN (gR ?_)))
   refine Z94 ?_
   refine hn0 _ (z + 1, c + k.size, if k.depth > e then k.depth else e) ⟨by show z + 1 ≤ ks.length; omega, by show 0 ≤ c + (k.size : Int); omega, by show c + (k.size : Int) + (Tr.sizes (ks.drop (z + 1)) : Nat) = (Tr.sizes ks : Nat); omega, by show 0 ≤ (if k.depth > e then k.depth else e); split <;> omega, by show (if k.depth > e then k.depth else e) ≤ _; split <;> omega, by show Tr.deeps (ks.drop (z + 1)) _ = _; rw [← Tr.deeps_drop hk e]; exact hc5⟩ (by show ks.length - (z + 1) < ks.length - z; omega) le_of
  have hge : z = ks.length := by
   have : ¬ (z : Int) < (ks.map Tr.d).length := by simpa using hb0
   rw [List.length_map] at this
   omega
  have hdd := Tr.deeps_bd ks 0
  refine Z118 ?_
  subst hge
  rw [List.drop_length] at hc2 hc5
  rw [Tr.deeps] at hc5
  rw [Tr.sizes] at hc2
  refine Z1 ?_;refine Z93 ?_;refine Z15 ?_;refine Z2 ?_;refine Z83 ?_;refine Z55 ?_
  exact ⟨by rw [Tr.size, Tr.depth, ← hc5]; congr 5; omega, rfl⟩
def limitsE (ts : List Tr) : Int := if (Tr.sizes ts : Int) > 4000 then 5 else if Tr.deeps ts 0 > 60 then 6 else 0
set_option maxHeartbeats 4000000 in
theorem c85 (ks : List Tr) (h5 : ∀ k ∈ ks, k.Ok) (hszb : Tr.sizes ks ≤ 1000000000) : Pf Try.prog 46 [.sl (ks.map Tr.d)] (.d (.int .i64 (limitsE ks))) := by
 refine pf_body (rvs := [.tmp 2]) [(0, .d (.sl (ks.map Tr.d)))] Try.func46 Try.ntmps46 Try.results46 (fun S0 O0 w0 m0 hm0 => ?_)
 refine Z5 ?_
 have hln := Tr.len_sizes ks
 refine Z84 ?_;refine Z2 ?_;refine Z96 ?_;refine Z1 ?_;refine Z39 ?_;refine Z105 ?_
 refine g_loop (α := Nat × Int × Int) (fun z => ⟨[(11, .d (.int .i64 (z.1 : Nat))), (10, .d (.int .i64 ((ks.map Tr.d).length : Nat))), (9, .d (.sl (ks.map Tr.d))), (3, .d (.int .i64 z.2.1)), (4, .d (.int .i64 z.2.2))], []⟩) (fun z => ks.length - z.1) (fun z => z.1 ≤ ks.length ∧ 0 ≤ z.2.1 ∧ z.2.1 + Tr.sizes (ks.drop z.1) = Tr.sizes ks ∧ 0 ≤ z.2.2 ∧ z.2.2 ≤ Tr.sizes ks ∧ Tr.deeps (ks.drop z.1) z.2.2 = Tr.deeps ks 0) (0, 0, 0) ⟨Nat.zero_le _, by show (0 : Int) ≤ 0; omega, by show (0 : Int) + _ = _; simp, by show (0 : Int) ≤ 0; omega, by show (0 : Int) ≤ _; omega, rfl⟩ (fun z hz Q' hn0 he0 hr0 => ?_) (le_of)
 obtain ⟨z, c, e⟩ := z
 obtain ⟨hz1, hc1, hc2, hc3, hc4, hc5⟩ := hz
 replace hz1 : z ≤ ks.length := hz1
 replace hc1 : 0 ≤ c := hc1
 replace hc2 : c + Tr.sizes (ks.drop z) = Tr.sizes ks := hc2
 replace hc3 : 0 ≤ e := hc3
 replace hc4 : e ≤ Tr.sizes ks := hc4
 replace hc5 : Tr.deeps (ks.drop z) e = Tr.deeps ks 0 := hc5
 refine Z107 ?_
 refine zgC ?_ ?_ <;> intro hb0
 ·
  have hlt : z < ks.length := by simpa using hb0
  obtain ⟨k, hk⟩ : ∃ k, ks[z]? = some k := ⟨_, gE hlt⟩
  have hmem := mG hk
  have hxd := Tr.ds_get hk
  have hxa := hxd
  obtain ⟨kop, knm, knu, kks, hka⟩ := k.d_agg
  rw [hka] at hxa
  have hsd := Tr.sizes_drop hk
  have hdb := Tr.depth_bd k
  have hsm := Tr.size_mem hmem
  refine Z25 ?_;refine Z68 ?_
  first | refine sv rfl (y_load_agg sz27 u27 rfl) ?_ | refine vq rfl (qG (by exact sz27) u27 rfl) ?_
  refine Z62 ?_
  first | refine sa rfl (dS sz27) ?_ | refine sa rfl (d_store_take sz27) ?_
  refine Z48 ?_;refine Z7 ?_
  first | refine sv rfl (y_load_agg sz27 u27 rfl) ?_ | refine vq rfl (qG (by exact sz27) u27 rfl) ?_
  refine gL (xs := [.tmp 16]) rfl ((hka ▸ c151n k.size k (Nat.le_refl _) (h5 k hmem) (by omega))) ?_
  refine Z1 ?_;refine Z43 ?_;refine Z43 ?_;refine Z2 ?_;refine Z2 ?_;refine Z35 ?_
  refine gP [0, 2, 3, 4, 6, 7, 8, 9, 10, 11] ?_
  refine Z22 ?_;refine Z108 ?_;refine Z15 ?_;refine Z2 ?_
  refine gN (tN (gR ?_))
  refine Z108 ?_
  refine sv rfl (Yld_pure rfl (oR rfl) q_max) ?_
  refine Z2 ?_
  refine gN (bN (tN (gR ?_)))
  refine Z94 ?_
  refine hn0 _ (z + 1, c + k.size, if k.depth > e then k.depth else e) ⟨by show z + 1 ≤ ks.length; omega, by show 0 ≤ c + (k.size : Int); omega, by show c + (k.size : Int) + (Tr.sizes (ks.drop (z + 1)) : Nat) = (Tr.sizes ks : Nat); omega, by show 0 ≤ (if k.depth > e then k.depth else e); split <;> omega, by show (if k.depth > e then k.depth else e) ≤ _; split <;> omega, by show Tr.deeps (ks.drop (z + 1)) _ = _; rw [← Tr.deeps_drop hk e]; exact hc5⟩ (by show ks.length - (z + 1) < ks.length - z; omega) le_of
 have hge : z = ks.length := by
  have : ¬ (z : Int) < (ks.map Tr.d).length := by simpa using hb0
  rw [List.length_map] at this
  omega
 have hdd := Tr.deeps_bd ks 0
 refine Z109 ?_
 refine blk_exit (tN (zgS (G_block (zgS (gR ?_)))))
 subst hge
 rw [List.drop_length] at hc2 hc5
 rw [Tr.deeps] at hc5
 rw [Tr.sizes] at hc2
 have hcs : c = Tr.sizes ks := by omega
 subst hcs
 subst hc5
 refine Z1 ?_;refine Z63 ?_;refine Z116 ?_
 refine zgC ?_ ?_ <;> intro hb1
 ·
  refine Z5 ?_;refine Z103 ?_;refine Z4 ?_
  exact ⟨by rw [limitsE, if_pos (oR hb1)], rfl⟩
 refine Z101 ?_;refine Z63 ?_;refine Z116 ?_
 refine zgC ?_ ?_ <;> intro hb2
 ·
  refine Z5 ?_;refine Z103 ?_;refine Z4 ?_
  exact ⟨by rw [limitsE, if_neg (of_decide_eq_false hb1), if_pos (oR hb2)], rfl⟩
 refine gK (bN (tN (zgS (gR ?_))))
 refine Z85 ?_
 exact ⟨by rw [limitsE, if_neg (of_decide_eq_false hb1), if_neg (of_decide_eq_false hb2)], rfl⟩
def nodeE : Tr → Int
 | .mk op name num ks =>
  if (limitsE [.mk op name num ks] != 0) = true then limitsE [.mk op name num ks]
  else if ((!isExprB op && !isStmtB op && op != 30 && op != 31) || !(Tr.mk op name num ks).shaped) = true then 2 else 0
set_option maxHeartbeats 4000000 in
theorem c24 (t : Tr) (hok : t.Ok) (hszb : t.size ≤ 1000000000) : Pf Try.prog 29 [t.d] (.d (.int .i64 (nodeE t))) := by
 obtain ⟨op, name, num, ks⟩ := t
 rw [Tr.d_mk]
 try simp only [Tr.op_mk, Tr.nm_mk, Tr.nu_mk, Tr.kids_mk]
 refine pf_body (rvs := [.tmp 2]) [(0, .d (.agg [.int .i64 op, .str name, .int .i64 num, .sl (ks.map Tr.d)]))] Try.func29 Try.ntmps29 Try.results29 (fun S0 O0 w0 m0 hm0 => ?_)
 refine Z92 ?_;refine Z96 ?_
 first | refine sv rfl (y_load_agg sz27 u27 rfl) ?_ | refine vq rfl (qG (by exact sz27) u27 rfl) ?_
 refine sv rfl (y_buildSlice (xs := [.tmp 4]) u22 inf27) ?_
 refine gL (xs := [.tmp 5]) rfl ((Tr.ds_one op name num ks ▸ c85 [.mk op name num ks] (by simpa using hok) (by simpa [Tr.sizes] using hszb))) ?_
 refine Z90 ?_;refine Z72 ?_;refine Z12 ?_
 refine zgC ?_ ?_ <;> intro hb0
 ·
  refine Z101 ?_;refine Z102 ?_
  exact ⟨by rw [nodeE, if_pos hb0], rfl⟩
 refine gK (tN (zgS (zgS ?_)))
 refine g_cg0 [10, 11, 12, 13, 14, 15, 16, 17, 18, 19, 20, 21, 22, 23, 24, 25, 26, 27, 28, 29, 30, 31, 32, 33, 34, 35] ?_
 refine Z82 ?_
 first | refine cS 1 (fun b rest hc1 hc2 hc3 => sv rfl (y_fieldAt 0 u27 rfl sz3) (gN ⟨rfl, rfl⟩)) ?_ | refine cS 1 (fun b rest hc1 hc2 hc3 => vq rfl (q_fieldAddr u27 rfl sz3) (gN ⟨rfl, rfl⟩)) ?_ | refine cS 1 (fun b rest hc1 hc2 hc3 => vq rfl (qF u27 rfl sz3) (gN ⟨rfl, rfl⟩)) ?_
 refine cP [0] ?_
 first | refine cS 2 (fun b rest hc1 hc2 hc3 => sv rfl (y_load_leaf u3) (gN ⟨rfl, rfl⟩)) ?_ | refine cS 2 (fun b rest hc1 hc2 hc3 => vq rfl (qL u3) (gN ⟨rfl, rfl⟩)) ?_
 refine cP [1] ?_
 refine cS 3 (fun b rest hc1 hc2 hc3 => gL (xs := [.tmp 11]) rfl (c74 op) (gN ⟨rfl, rfl⟩)) ?_
 refine cP [2] ?_
 refine cS 4 (fun b rest hc1 hc2 hc3 => vq rfl q_not (gN ⟨rfl, rfl⟩)) ?_
 refine cP [3, 2] ?_
 refine cS 5 (fun b rest hc1 hc2 hc3 => vq rfl qM (gN ⟨rfl, rfl⟩)) ?_
 refine cP [4] ?_
 first | refine cS 6 (fun b rest hc1 hc2 hc3 => sg rfl (fun hg => q_fieldAddr u27 rfl sz3) (gN ⟨rfl, rfl⟩)) ?_ | refine cS 6 (fun b rest hc1 hc2 hc3 => sg rfl (fun hg => qF u27 rfl sz3) (gN ⟨rfl, rfl⟩)) ?_
 refine cP [5, 4] ?_
 first | refine cS 7 (fun b rest hc1 hc2 hc3 => sg rfl (fun hg => sP 15 rfl hg (qO u3)) (gN ⟨rfl, rfl⟩)) ?_ | refine cS 7 (fun b rest hc1 hc2 hc3 => sg rfl (fun hg => sP 15 rfl hg (qL u3)) (gN ⟨rfl, rfl⟩)) ?_
 refine cP [6, 4, 4] ?_
 refine cS 8 (fun b rest hc1 hc2 hc3 => g_callg (xs := [.tmp 16]) rfl (fun hg => c95 op) (gN ⟨rfl, rfl⟩)) ?_
 refine cP [7, 4] ?_
 refine cS 9 (fun b rest hc1 hc2 hc3 => sg rfl (fun hg => sP 17 rfl hg q_not) (gN ⟨rfl, rfl⟩)) ?_
 refine cP [4, 8] ?_
 refine cS 10 (fun b rest hc1 hc2 hc3 => vq rfl q_and (gN ⟨rfl, rfl⟩)) ?_
 refine cP [9, 7] ?_
 refine cS 11 (fun b rest hc1 hc2 hc3 => vq rfl qM (gN ⟨rfl, rfl⟩)) ?_
 refine cP [10] ?_
 first | refine cS 12 (fun b rest hc1 hc2 hc3 => sg rfl (fun hg => q_fieldAddr u27 rfl sz3) (gN ⟨rfl, rfl⟩)) ?_ | refine cS 12 (fun b rest hc1 hc2 hc3 => sg rfl (fun hg => qF u27 rfl sz3) (gN ⟨rfl, rfl⟩)) ?_
 refine cP [11, 10] ?_
 first | refine cS 13 (fun b rest hc1 hc2 hc3 => sg rfl (fun hg => sP 21 rfl hg (qO u3)) (gN ⟨rfl, rfl⟩)) ?_ | refine cS 13 (fun b rest hc1 hc2 hc3 => sg rfl (fun hg => sP 21 rfl hg (qL u3)) (gN ⟨rfl, rfl⟩)) ?_
 refine cP [12, 10] ?_
 refine cS 14 (fun b rest hc1 hc2 hc3 => sg rfl (fun hg => sP 22 rfl hg q_neq) (gN ⟨rfl, rfl⟩)) ?_
 refine cP [10, 13] ?_
 refine cS 15 (fun b rest hc1 hc2 hc3 => vq rfl q_and (gN ⟨rfl, rfl⟩)) ?_
 refine cP [14, 10] ?_
 refine cS 16 (fun b rest hc1 hc2 hc3 => vq rfl qM (gN ⟨rfl, rfl⟩)) ?_
 refine cP [15] ?_
 first | refine cS 17 (fun b rest hc1 hc2 hc3 => sg rfl (fun hg => q_fieldAddr u27 rfl sz3) (gN ⟨rfl, rfl⟩)) ?_ | refine cS 17 (fun b rest hc1 hc2 hc3 => sg rfl (fun hg => qF u27 rfl sz3) (gN ⟨rfl, rfl⟩)) ?_
 refine cP [16, 15] ?_
 first | refine cS 18 (fun b rest hc1 hc2 hc3 => sg rfl (fun hg => sP 26 rfl hg (qO u3)) (gN ⟨rfl, rfl⟩)) ?_ | refine cS 18 (fun b rest hc1 hc2 hc3 => sg rfl (fun hg => sP 26 rfl hg (qL u3)) (gN ⟨rfl, rfl⟩)) ?_
 refine cP [17, 15] ?_
 refine cS 19 (fun b rest hc1 hc2 hc3 => sg rfl (fun hg => sP 27 rfl hg q_neq) (gN ⟨rfl, rfl⟩)) ?_
 refine cP [15, 18] ?_
 refine cS 20 (fun b rest hc1 hc2 hc3 => vq rfl q_and (gN ⟨rfl, rfl⟩)) ?_
 refine cP [19, 15] ?_
 refine cS 21 (fun b rest hc1 hc2 hc3 => vq rfl qM (gN ⟨rfl, rfl⟩)) ?_
 refine cP [20] ?_
 first | refine cS 22 (fun b rest hc1 hc2 hc3 => sg rfl (fun hg => q_load_agg sz27 u27 rfl) (gN ⟨rfl, rfl⟩)) ?_ | refine cS 22 (fun b rest hc1 hc2 hc3 => sg rfl (fun hg => qG (by exact sz27) u27 rfl) (gN ⟨rfl, rfl⟩)) ?_
 refine cP [20, 20] ?_
 refine cS 23 (fun b rest hc1 hc2 hc3 => g_callg (xs := []) rfl (fun hg => c86) (gN ⟨rfl, rfl⟩)) ?_
 refine cP [21, 22, 22, 20] ?_
 refine cS 24 (fun b rest hc1 hc2 hc3 => g_callg (xs := [.tmp 31, .tmp 32]) rfl (fun hg => (Tr.d_mk op name num ks ▸ c88n _ (.mk op name num ks) (Nat.le_refl _) hok)) (gN ⟨rfl, rfl⟩)) ?_
 refine cP [23, 20] ?_
 refine cS 25 (fun b rest hc1 hc2 hc3 => sg rfl (fun hg => sP 33 rfl hg q_not) (gN ⟨rfl, rfl⟩)) ?_
 refine cP [20, 24] ?_
 refine cS 26 (fun b rest hc1 hc2 hc3 => vq rfl q_or (gN ⟨rfl, rfl⟩)) ?_
 refine cg_done ?_
 refine tN ?_
 refine zgC ?_ ?_ <;> intro hb1
 ·
  refine Z49 ?_;refine Z54 ?_;refine Z22 ?_;refine Z102 ?_
  exact ⟨by rw [nodeE, if_neg (by rw [hb0]; decide), if_pos hb1], rfl⟩
 refine Z66 ?_;refine Z54 ?_;refine Z22 ?_;refine Z85 ?_
 exact ⟨by rw [nodeE, if_neg (by rw [hb0]; decide), if_neg (by rw [hb1]; decide)], rfl⟩
end
section
def W (n : Int) : Int := IntKind.i64.wrap n
def U (n : Int) : Int := IntKind.u64.wrap n
def withinB (n : Int) : Bool := decide (n ≥ -1000000) && decide (n ≤ 1000000)
def lastS (f b c : Int) : Int := W (f + W (b * W (c - 1)))
def lowS (f b c : Int) : Int := if lastS f b c < f then lastS f b c else f
def highS (f b c : Int) : Int := if lastS f b c > f then lastS f b c else f
def normalS (f b c : Int) : (Int × Int × Int) × Int :=
 if c ≤ 0 then ((1, 0, 1), 0)
 else if (!withinB (lowS f b c) || !withinB (highS f b c)) = true then ((0, 0, 0), 4) else ((lowS f b c, highS f b c, if (c == 1) = true then 1 else b), 0)
def turnS (f b c : Int) : Int × Int × Int := if (c == 0) = true then (f, b, c) else (lastS f b c, W (0 - b), c)
def ofS (lo hi : Int) : (Int × Int × Int) × Int :=
 if ((!withinB lo || !withinB hi) || !withinB 1) = true then ((0, 0, 0), 4) else if lo > hi then normalS 0 0 0 else normalS lo 1 (W (W ((W (hi - lo)).tdiv 1) + 1))
def seriesS (lo hi st : Int) : Int × Int × Int :=
 if lo > hi then (0, 0, 0) else if st < 0 then (hi, st, W (W ((W (hi - lo)).tdiv (W (0 - st))) + 1)) else (lo, st, W (W ((W (hi - lo)).tdiv st) + 1))
def limS (lo hi : Int) : Int := if (!withinB lo || !withinB hi) = true then 4 else 0
def stepS (st : Int) : Int := if st < 0 then U (0 - U st) else U st
def checkS (lo hi st : Int) : Int :=
 if ((!(decide (lo = 1) && decide (hi = 0) && decide (st = 1))) && !(lo == hi && st == 1)) = true then
  (if (decide (lo ≥ hi) || st == 0) = true then 2 else if ((U (W (hi - lo))).tmod (stepS st) != 0) = true then 2 else limS lo hi)
 else limS lo hi
def sizeS (lo hi st : Int) : Int := if (checkS lo hi st != 0) = true then 0 else (seriesS lo hi st).2.2
def wf64 (n : Int) : Prop := -9223372036854775808 ≤ n ∧ n ≤ 9223372036854775807
end
section
def byN (f b c m : Int) : (Int × Int × Int) × Int := normalS f (W (b * m)) (W ((W (W (c + m) - 1)).tdiv m))
def byS (lo hi st n : Int) : (Int × Int × Int) × Int :=
 if (checkS lo hi st != 0) = true then ((0, 0, 0), checkS lo hi st)
 else if (n == 0) = true then ((0, 0, 0), 1)
 else if (!withinB n) = true then ((0, 0, 0), 4)
 else if n < 0 then byN (turnS (seriesS lo hi st).1 (seriesS lo hi st).2.1 (seriesS lo hi st).2.2).1 (turnS (seriesS lo hi st).1 (seriesS lo hi st).2.1 (seriesS lo hi st).2.2).2.1 (turnS (seriesS lo hi st).1 (seriesS lo hi st).2.1 (seriesS lo hi st).2.2).2.2 (W (0 - n))
 else byN (seriesS lo hi st).1 (seriesS lo hi st).2.1 (seriesS lo hi st).2.2 n
def countS (lo hi st n : Int) : (Int × Int × Int) × Int :=
 if (checkS lo hi st != 0) = true then ((0, 0, 0), checkS lo hi st)
 else if (decide (n > (seriesS lo hi st).2.2) || decide (n < W (0 - (seriesS lo hi st).2.2))) = true then ((0, 0, 0), 5)
 else if n < 0 then normalS (W ((seriesS lo hi st).1 + W ((seriesS lo hi st).2.1 * W ((seriesS lo hi st).2.2 + n)))) (seriesS lo hi st).2.1 (W (0 - n))
 else normalS (seriesS lo hi st).1 (seriesS lo hi st).2.1 n
end
section
def intT (n : Int) : Tr := .mk 1 ⟨#[]⟩ n []
def boolT (b : Bool) : Tr := .mk 2 ⟨#[]⟩ (if b = true then 1 else 0) []
def isV : Option Tr → Int → Bool
 | none, _ => false
 | some t, k => t.op == k
def nuV : Option Tr → Int
 | none => 0
 | some t => t.nu
def minI : Int := -9223372036854775808
def maxI : Int := 9223372036854775807
def mB : ByteArray := ⟨#[45]⟩
def bangB : ByteArray := ⟨#[33]⟩
def unaryV (nm : ByteArray) : Option Tr → Option Tr
 | none => none
 | some (.mk op _ num _) =>
  if ((decide (nm = mB) && op == 1) && num != minI) = true then some (intT (W (0 - num)))
  else if (decide (nm = bangB) && op == 2) = true then some (boolT (num == 0)) else none
def fitsV (n : Int) (ok : Bool) : Option Tr := if ok = true then some (intT n) else none
def divB (a b : Int) : Bool := b != 0 && (a != minI || b != -1)
def addV (a b : Int) : Option Tr := fitsV (W (a + b)) ((decide (b ≤ 0) || decide (a ≤ W (maxI - b))) && (decide (b ≥ 0) || decide (a ≥ W (minI - b))))
def subV (a b : Int) : Option Tr := fitsV (W (a - b)) ((decide (b ≥ 0) || decide (a ≤ W (maxI + b))) && (decide (b ≤ 0) || decide (a ≥ W (minI + b))))
def mulV (a b : Int) : Option Tr := fitsV (W (a * b)) ((a == 0 || b == 0) || (((a != -1 || b != minI) && (b != -1 || a != minI)) && W ((W (a * b)).tdiv b) == a))
def quoV (a b : Int) : Option Tr := if (!divB a b) = true then none else some (intT (W (a.tdiv b)))
def remV (a b : Int) : Option Tr := if (!divB a b) = true then none else some (intT (a.tmod b))
structure Op2 (α : Type) where
 g : Nat
 caps : List D
 f : Int → Int → α
def Op2.d {α : Type} (o : Op2 α) : D := .fn (.func o.g) [] o.caps
def intTab : List (ByteArray × Op2 (Option Tr)) := [(⟨#[43]⟩, ⟨292, [.ptr (.fn (.func 290) [] [])], addV⟩), (⟨#[45]⟩, ⟨293, [.ptr (.fn (.func 290) [] [])], subV⟩), (⟨#[42]⟩, ⟨294, [.ptr (.fn (.func 290) [] [])], mulV⟩), (⟨#[47]⟩, ⟨295, [.ptr (.fn (.func 291) [] [])], quoV⟩), (⟨#[37]⟩, ⟨296, [.ptr (.fn (.func 291) [] [])], remV⟩)]
def cmpTab : List (ByteArray × Op2 Bool) := [(⟨#[61, 61]⟩, ⟨297, [], fun a b => a == b⟩), (⟨#[33, 61]⟩, ⟨298, [], fun a b => a != b⟩), (⟨#[60]⟩, ⟨299, [], fun a b => decide (a < b)⟩), (⟨#[60, 61]⟩, ⟨300, [], fun a b => decide (a ≤ b)⟩), (⟨#[62]⟩, ⟨301, [], fun a b => decide (a > b)⟩), (⟨#[62, 61]⟩, ⟨302, [], fun a b => decide (a ≥ b)⟩)]
def tabGet {α : Type} (l : List (ByteArray × Op2 α)) (nm : ByteArray) : Option (Op2 α) := (l.find? fun x => decide (x.1 = nm)).map (·.2)
end
section
abbrev KL := List (ByteArray × Option Tr)
def findK (nm : ByteArray) : KL → Option Tr
 | [] => none
 | x :: r => if x.1 = nm then x.2 else findK nm r
def andB : ByteArray := ⟨#[38, 38]⟩
def orB : ByteArray := ⟨#[124, 124]⟩
def eqB : ByteArray := ⟨#[61, 61]⟩
def neB : ByteArray := ⟨#[33, 61]⟩
def cmpV (nm : ByteArray) (a b : Option Tr) : Option Tr := match tabGet cmpTab nm with
 | none => none
 | some o => if ((isV a 1 && isV b 1) || ((isV a 2 && isV b 2) && (decide (nm = eqB) || decide (nm = neB)))) = true then some (boolT (o.f (nuV a) (nuV b))) else none
def binV (nm : ByteArray) (a b : Option Tr) : Option Tr :=
 if (decide (nm = andB) || decide (nm = orB)) = true then
  (if (!isV a 2) = true then none else if (decide (nm = orB) == (nuV a == 1)) = true then a else if isV b 2 = true then b else none)
 else match tabGet intTab nm with
  | some o => if (isV a 1 && isV b 1) = true then o.f (nuV a) (nuV b) else cmpV nm a b
  | none => cmpV nm a b
end
section
abbrev SP := (Int × Int × Int) × Bool
def noSP : SP := ((0, 0, 0), false)
def v0 (vs : List (Option Tr)) (i : Nat) : Option Tr := vs.getD i none
def s0 (ss : List SP) : SP := ss.getD 0 noSP
def okSP (x : (Int × Int × Int) × Int) : SP := (x.1, x.2 == 0)
def sizeB : ByteArray := ⟨#[115, 105, 122, 101]⟩
def spanN (op : Int) (vs : List (Option Tr)) (ss : List SP) : SP :=
 if (op == 7) = true then (if (!isV (v0 vs 0) 1 || !isV (v0 vs 1) 1) = true then noSP else okSP (ofS (nuV (v0 vs 0)) (nuV (v0 vs 1))))
 else if (op == 8 || op == 9) = true then
  (if (!(s0 ss).2 || !isV (v0 vs 1) 1) = true then noSP
   else if (op == 9) = true then okSP (countS (s0 ss).1.1 (s0 ss).1.2.1 (s0 ss).1.2.2 (nuV (v0 vs 1))) else okSP (byS (s0 ss).1.1 (s0 ss).1.2.1 (s0 ss).1.2.2 (nuV (v0 vs 1))))
 else noSP
def valN (l : KL) (op : Int) (nm : ByteArray) (num : Int) (ks : List Tr) (vs : List (Option Tr)) (ss : List SP) : Option Tr :=
 if (op == 1 || op == 2) = true then some (.mk op nm num ks)
 else if (op == 4) = true then findK nm l
 else if (op == 5) = true then unaryV nm (v0 vs 0)
 else if (op == 6) = true then binV nm (v0 vs 0) (v0 vs 1)
 else if (op == 19) = true then (if (!isV (v0 vs 0) 2) = true then none else v0 vs (2 - nuV (v0 vs 0)).toNat)
 else if (op == 14) = true then (if ((s0 ss).2 && decide (nm = sizeB)) = true then some (intT (sizeS (s0 ss).1.1 (s0 ss).1.2.1 (s0 ss).1.2.2)) else none)
 else none
end
section
mutual
def Tr.value (l : KL) : Tr → Option Tr
 | .mk op nm num ks => valN l op nm num ks (Tr.values l ks) (Tr.spans l ks)
def Tr.span (l : KL) : Tr → SP
 | .mk op _ _ ks => spanN op (Tr.values l ks) (Tr.spans l ks)
def Tr.values (l : KL) : List Tr → List (Option Tr)
 | [] => []
 | k :: r => k.value l :: Tr.values l r
def Tr.spans (l : KL) : List Tr → List SP
 | [] => []
 | k :: r => k.span l :: Tr.spans l r
end
def ValOk (v : Tr) : Prop := (∃ n, wf64 n ∧ v = intT n) ∨ ∃ b, v = boolT b
def KOk (l : KL) : Prop := ∀ x ∈ l, ∀ t, x.2 = some t → ValOk t
theorem ValOk.num {v : Tr} (h : ValOk v) (h2 : v.op = 2) : v.nu = 0 ∨ v.nu = 1 := by
 rcases h with ⟨n, _, rfl⟩ | ⟨b, rfl⟩
 · cases h2
 · cases b
   · exact .inl rfl
   · exact .inr rfl
theorem Tr.shaped_mk {op : Int} {nm : ByteArray} {num : Int} {ks : List Tr} (h : (Tr.mk op nm num ks).shaped = true) : rightB (.mk op nm num ks) = true ∧ ∀ k ∈ ks, k.shaped = true := by
 rw [Tr.shaped, Tr.shapeds_all, Bool.and_eq_true, Bool.not_eq_true', List.any_eq_false] at h
 exact ⟨h.1, fun k hk => by simpa using h.2 k hk⟩
theorem shGet1 : shGet 1 = some ⟨none, true, 90, [.ptr (.sl ([⟨#[]⟩].map .str))], (formsB [⟨#[]⟩])⟩ := rfl
theorem shGet2 : shGet 2 = some ⟨none, true, 69, [], rule154⟩ := rfl
theorem shGet5 : shGet 5 = some ⟨(some (⟨#[45]⟩, [⟨#[33]⟩])), false, 90, [.ptr (.sl ([⟨#[101]⟩].map .str))], (formsB [⟨#[101]⟩])⟩ := rfl
theorem shGet6 : shGet 6 = some ⟨(some (⟨#[43]⟩, [⟨#[45]⟩, ⟨#[42]⟩, ⟨#[47]⟩, ⟨#[37]⟩, ⟨#[61, 61]⟩, ⟨#[33, 61]⟩, ⟨#[60]⟩, ⟨#[60, 61]⟩, ⟨#[62]⟩, ⟨#[62, 61]⟩, ⟨#[38, 38]⟩, ⟨#[124, 124]⟩])), false, 90, [.ptr (.sl ([⟨#[101, 101]⟩].map .str))], (formsB [⟨#[101, 101]⟩])⟩ := rfl
theorem shGet7 : shGet 7 = some ⟨none, false, 90, [.ptr (.sl ([⟨#[101, 101]⟩].map .str))], (formsB [⟨#[101, 101]⟩])⟩ := rfl
theorem shGet8 : shGet 8 = some ⟨none, false, 90, [.ptr (.sl ([⟨#[101, 101]⟩].map .str))], (formsB [⟨#[101, 101]⟩])⟩ := rfl
theorem shGet9 : shGet 9 = some ⟨none, false, 90, [.ptr (.sl ([⟨#[101, 101]⟩].map .str))], (formsB [⟨#[101, 101]⟩])⟩ := rfl
theorem shGet14 : shGet 14 = some ⟨(some (⟨#[115, 105, 122, 101]⟩, [⟨#[108, 111, 119]⟩, ⟨#[104, 105, 103, 104]⟩, ⟨#[115, 116, 114, 105, 100, 101]⟩, ⟨#[100, 111, 109, 97, 105, 110]⟩])), false, 90, [.ptr (.sl ([⟨#[101]⟩].map .str))], (formsB [⟨#[101]⟩])⟩ := rfl
theorem shGet19 : shGet 19 = some ⟨none, false, 90, [.ptr (.sl ([⟨#[101, 101, 101]⟩].map .str))], (formsB [⟨#[101, 101, 101]⟩])⟩ := rfl
theorem values_get (l : KL) (ks : List Tr) : Tr.values l ks = ks.map (Tr.value l) := by
 induction ks with
 | nil => rw [Tr.values]; rfl
 | cons k r ih => rw [Tr.values, ih]; rfl
end
section
inductive Tr.Lens : Tr → Prop
 | mk {op : Int} {name : ByteArray} {num : Int} {ks : List Tr} (h4 : ks.length ≤ 1000000) (h5 : ∀ k ∈ ks, Tr.Lens k) : Tr.Lens (.mk op name num ks)
def badC : ByteArray × Tr → Bool
 | (_, .mk op name num ks) => (op != 1 && op != 2) || nodeE (.mk op name num ks) != 0
def constsB (l : List (ByteArray × Tr)) : Bool := !(l.any badC)
theorem badC_nil : constsB [] = true := rfl
def kl (l : List (ByteArray × Tr)) : KL := (l.map fun c => (c.1, some c.2)).reverse
end
section
theorem c1_3 : Try.prog.cellsOf 3 = 1 := by kernel_rfl
theorem c1_9 : Try.prog.cellsOf 9 = 1 := by kernel_rfl
theorem c1_22 : Try.prog.cellsOf 22 = 1 := by kernel_rfl
theorem c1_27 : Try.prog.cellsOf 27 = 4 := by kernel_rfl
theorem list4 : ∀ (ds : List D), ds.length = 4 → ∃ d0 d1 d2 d3, ds = [d0, d1, d2, d3]
 | [d0, d1, d2, d3], _ => ⟨d0, d1, d2, d3, rfl⟩
theorem tree_of {e : TypeId} {ds : List D} (h : DT Try.prog e ds) : (e = 27 → ∃ t : Tr, t.Ok ∧ D.agg ds = t.d) ∧ (e = 22 → ∃ ts : List Tr, ds = [.sl (ts.map Tr.d)] ∧ ts.length ≤ 140737488355328 ∧ ∀ t ∈ ts, t.Ok) := by
 induction h with
 | bool t b hu => exact ⟨fun h => (by subst h; rw [u27] at hu; cases hu), fun h => (by subst h; rw [u22] at hu; cases hu)⟩
 | int t k n hu => exact ⟨fun h => (by subst h; rw [u27] at hu; cases hu), fun h => (by subst h; rw [u22] at hu; cases hu)⟩
 | str t s hu => exact ⟨fun h => (by subst h; rw [u27] at hu; cases hu), fun h => (by subst h; rw [u22] at hu; cases hu)⟩
 | nil t e hu => exact ⟨fun h => (by subst h; rw [u27] at hu; cases hu), fun h => (by subst h; rw [u22] at hu; cases hu)⟩
 | ptr t e ds hu => exact ⟨fun h => (by subst h; rw [u27] at hu; cases hu), fun h => (by subst h; rw [u22] at hu; cases hu)⟩
 | sl t e dss hu hl hall ih =>
  refine ⟨fun h => (by subst h; rw [u27] at hu; cases hu), fun h => ?_⟩
  subst h
  rw [u22] at hu
  injection hu with hu
  injection hu with hu
  subst hu
  obtain ⟨ts, h1, h2, h3⟩ := list_at (P := Try.prog) (e := 27) (f := Tr.d) (Q := Tr.Ok) dss (fun i ds hi => by
   obtain ⟨t, ho, ht⟩ := (ih i ds hi).1 rfl
   exact ⟨t, ho, by simpa [D.mk, u27] using ht⟩)
  exact ⟨ts, by rw [h1], by rw [h3]; unfold reachBytes at hl; omega, h2⟩
 | struct t fs ds hu hl hall ih =>
  refine ⟨fun h => ?_, fun h => (by subst h; rw [u22] at hu; cases hu)⟩
  subst h
  rw [u27] at hu
  injection hu with hu
  injection hu with hu
  subst hu
  rw [c1_27] at hl
  obtain ⟨d0, d1, d2, d3, rfl⟩ := list4 ds hl
  have h0 : DT Try.prog 3 ((List.drop 0 [d0, d1, d2, d3]).take (Try.prog.cellsOf 3)) := hall 0 _ rfl
  have h1 : DT Try.prog 9 ((List.drop 1 [d0, d1, d2, d3]).take (Try.prog.cellsOf 9)) := hall 1 _ rfl
  have h2 : DT Try.prog 3 ((List.drop 2 [d0, d1, d2, d3]).take (Try.prog.cellsOf 3)) := hall 2 _ rfl
  obtain ⟨ts, h3, hlen, hok⟩ := (ih 3 _ rfl).2 rfl
  replace h3 : (List.drop 3 [d0, d1, d2, d3]).take (Try.prog.cellsOf 22) = [.sl (ts.map Tr.d)] := h3
  simp only [c1_3, c1_9, c1_22, List.drop_zero, List.drop_succ_cons, List.take_succ_cons, List.take_zero] at h0 h1 h2 h3
  obtain ⟨n0, e0, w0⟩ := h0.int_of u3
  obtain ⟨s1, e1, w1⟩ := h1.str_of u9
  obtain ⟨n2, e2, w2⟩ := h2.int_of u3
  obtain rfl := (List.cons.inj e0).1
  obtain rfl := (List.cons.inj e1).1
  obtain rfl := (List.cons.inj e2).1
  obtain rfl := (List.cons.inj h3).1
  exact ⟨.mk n0 s1 n2 ts, .mk w0 (by unfold reachBytes at w1; omega) w2 hlen hok, by rw [Tr.d_mk]⟩
theorem node_of {ds : List D} (h : DT Try.prog 27 ds) : ∃ t : Tr, t.Ok ∧ D.agg ds = t.d := (tree_of h).1 rfl
end
section
def z0 : Tr := .mk 0 ⟨#[]⟩ 0 []
def evalT : Tr → List (ByteArray × Tr) → Tr × Int
 | .mk op name num ks, l =>
  if (nodeE (.mk op name num ks) != 0) = true then (z0, nodeE (.mk op name num ks))
  else if (!isExprB op) = true then (z0, 2)
  else if (!constsB l) = true then (z0, 1)
  else match (Tr.mk op name num ks).value (kl l) with
   | none => (z0, 140)
   | some v => (v, 0)
theorem nodeE_shaped {op : Int} {name : ByteArray} {num : Int} {ks : List Tr} (h : nodeE (.mk op name num ks) = 0) : (Tr.mk op name num ks).shaped = true := by
 rw [nodeE] at h
 split at h
 · rename_i h1
   rw [h] at h1
   cases h1
 · split at h
   · cases h
   · rename_i h2
     cases hs : (Tr.mk op name num ks).shaped with
     | true => rfl
     | false => rw [hs] at h2; simp at h2
mutual
/-- An expression whose largest parts with a value are replaced by it. -/
def Tr.expr : Tr → Tr
 | .mk op name num ks =>
  if (!isExprB op) = true then .mk op name num ks
  else if ((evalT (.mk op name num ks) []).2 == 0) = true then (evalT (.mk op name num ks) []).1 else .mk op name num (Tr.exprs ks)
def Tr.exprs : List Tr → List Tr
 | [] => []
 | k :: r => k.expr :: Tr.exprs r
end
theorem Tr.exprs_map (ks : List Tr) : Tr.exprs ks = ks.map Tr.expr := by
 induction ks with
 | nil => rw [Tr.exprs]; rfl
 | cons k r ih => rw [Tr.exprs, ih]; rfl
end
section
theorem depth_mem : ∀ {ks : List Tr} {k : Tr} (d : Int), k ∈ ks → k.depth ≤ Tr.deeps ks d
 | x :: r, k, d, h => by
  rw [Tr.deeps]
  have h1 := Tr.deeps_bd r (if x.depth > d then x.depth else d)
  rcases List.mem_cons.1 h with rfl | h
  · split at h1 <;> rename_i h2 <;> first | rw [if_pos h2] | rw [if_neg h2]
    all_goals omega
  · exact depth_mem _ h
theorem lim_iff (t : Tr) : limitsE [t] = 0 ↔ (t.size : Int) ≤ 4000 ∧ t.depth ≤ 60 := by
 have hd := Tr.depth_bd t
 have hs : Tr.sizes [t] = t.size := by simp [Tr.sizes]
 have hp : Tr.deeps [t] 0 = t.depth := by
  rw [Tr.deeps, Tr.deeps, if_pos (by omega)]
 unfold limitsE
 rw [hs, hp]
 by_cases h1 : (t.size : Int) > 4000
 · rw [if_pos h1]; constructor
   · intro h; cases h
   · intro h; omega
 · rw [if_neg h1]
   by_cases h2 : t.depth > 60
   · rw [if_pos h2]; constructor
     · intro h; cases h
     · intro h; omega
   · rw [if_neg h2]; constructor
     · intro _; omega
     · intro _; rfl
def QT (t : Tr) : Prop := limitsE [t] = 0 ∧ t.shaped = true ∧ t.Ok
variable {op num : Int} {nm : ByteArray} {ks : List Tr}
theorem QT.kid (h : QT (.mk op nm num ks)) {k : Tr} (hk : k ∈ ks) : QT k := by
 obtain ⟨h1, h2, h3⟩ := h
 refine ⟨?_, (Tr.shaped_mk h2).2 k hk, Tr.kids_ok h3 k hk⟩
 rw [lim_iff] at h1 ⊢
 have hs := Tr.size_mem hk
 have hd := depth_mem 0 hk
 rw [Tr.size, Tr.depth] at h1
 omega
theorem QT.of {t : Tr} (h : nodeE t = 0) (hok : t.Ok) : QT t := by
 obtain ⟨op, nm, num, ks⟩ := t
 refine ⟨?_, nodeE_shaped h, hok⟩
 rw [nodeE] at h
 split at h
 · exact h
 · rename_i h1
   simpa using h1
theorem nodeE_expr (h : QT (.mk op nm num ks)) (ho : isExprB op = true) : nodeE (.mk op nm num ks) = 0 := by
 rw [nodeE, if_neg (by rw [h.1]; decide), if_neg (by rw [ho, h.2.1]; simp)]
theorem kl_nil : kl [] = [] := rfl
def evR : Option Tr → Tr × Int
 | none => (z0, 140)
 | some v => (v, 0)
theorem evalT_expr (h : QT (.mk op nm num ks)) (ho : isExprB op = true) : evalT (.mk op nm num ks) [] = evR ((Tr.mk op nm num ks).value []) := by
 rw [evalT, nodeE_expr h ho, if_neg (by decide), ho, if_neg (by decide), badC_nil, if_neg (by decide), kl_nil]
 cases (Tr.mk op nm num ks).value [] <;> rfl
def exR (op : Int) (nm : ByteArray) (num : Int) (ks : List Tr) : Option Tr → Tr
 | none => .mk op nm num (ks.map Tr.expr)
 | some v => v
theorem expr_expr (h : QT (.mk op nm num ks)) (ho : isExprB op = true) : (Tr.mk op nm num ks).expr = exR op nm num ks ((Tr.mk op nm num ks).value []) := by
 rw [Tr.expr, ho, if_neg (by decide), evalT_expr h ho]
 cases (Tr.mk op nm num ks).value [] with
 | none => rw [Tr.exprs_map]; rfl
 | some v => rfl
variable {v : Tr}
theorem ValOk.shaped (h : ValOk v) : v.shaped = true := by
 rcases h with ⟨n, _, rfl⟩ | ⟨b, rfl⟩
 · rfl
 · cases b <;> rfl
theorem ValOk.okT (h : ValOk v) : v.Ok := by
 rcases h with ⟨n, hn, rfl⟩ | ⟨b, rfl⟩
 · refine .mk (by decide) (by decide) ?_ (by decide) (by simp)
   simpa [Lit.wf, IntKind.min, IntKind.max, IntKind.signed, IntKind.bits, wf64] using hn
 · cases b
   · exact .mk (by decide) (by decide) (by decide) (by decide) (by simp)
   · exact .mk (by decide) (by decide) (by decide) (by decide) (by simp)
theorem ValOk.one (h : ValOk v) : v.size = 1 := by
 rcases h with ⟨n, _, rfl⟩ | ⟨b, rfl⟩
 · rw [intT, Tr.size, Tr.sizes]
 · rw [boolT, Tr.size, Tr.sizes]
theorem ValOk.QT (h : ValOk v) : QT v := by
 refine ⟨?_, h.shaped, h.okT⟩
 rw [lim_iff, h.one]
 have := Tr.depth_bd v
 have := h.one
 omega
theorem ValOk.self (h : ValOk v) (l : KL) : v.value l = some v ∧ v.span l = noSP := by
 rcases h with ⟨n, _, rfl⟩ | ⟨b, rfl⟩
 · exact ⟨rfl, rfl⟩
 · exact ⟨rfl, rfl⟩
theorem ValOk.eval (h : ValOk v) : evalT v [] = (v, 0) ∧ v.expr = v := by
 have hq := h.QT
 have hv := (h.self []).1
 rcases h with ⟨n, hn, rfl⟩ | ⟨b, rfl⟩
 · refine ⟨?_, ?_⟩
   · rw [intT] at hq hv ⊢; rw [evalT_expr hq rfl, hv]; rfl
   · rw [intT] at hq hv ⊢; rw [expr_expr hq rfl, hv]; rfl
 · refine ⟨?_, ?_⟩
   · rw [boolT] at hq hv ⊢; rw [evalT_expr hq rfl, hv]; rfl
   · rw [boolT] at hq hv ⊢; rw [expr_expr hq rfl, hv]; rfl
theorem spans_get (l : KL) (ks : List Tr) : Tr.spans l ks = ks.map (Tr.span l) := by
 induction ks with
 | nil => rw [Tr.spans]; rfl
 | cons k r ih => rw [Tr.spans, ih]; rfl
theorem Tr.d_eta (t : Tr) : t.d = .agg [.int .i64 t.op, .str t.nm, .int .i64 t.nu, .sl (t.kids.map Tr.d)] := by
 obtain ⟨op, nm, num, ks⟩ := t
 exact Tr.d_mk ..
end
section
def loopsB (op num : Int) (n : Nat) : Bool := ((((op == 54 || op == 55) || op == 56) && decide (num ≥ 0)) && decide (num ≤ 2)) && decide ((n : Int) ≥ W (num + 2))
def hideK (nm : ByteArray) (l : KL) : KL := (nm, none) :: l
def bindK (ks : List Tr) (l : KL) : KL := ks.foldl (fun l k => hideK k.nm l) l
def keepsB (op num : Int) (n i : Nat) (k : Tr) : Bool := ((op == 51 && (i : Int) == 0) && k.op == 4) || (loopsB op num n && decide ((i : Int) < num))
mutual
def Tr.put : Tr → KL → Tr
 | .mk op nm num ks, l =>
  if (op == 4) = true then (match findK nm l with | some v => v | none => .mk op nm num ks)
  else if (op == 67) = true then .mk op nm num ks
  else .mk op nm num (Tr.puts op num ks l 0 l ks)
def Tr.puts (op num : Int) (all : List Tr) (l : KL) (i : Nat) (inner : KL) : List Tr → List Tr
 | [] => []
 | k :: r =>
  if keepsB op num all.length i k = true then k :: Tr.puts op num all l (i + 1) (if (k.op == 50) = true then hideK k.nm inner else inner) r
  else if (loopsB op num all.length && (i : Int) == W (num + 1)) = true then k.put (bindK (all.take num.toNat) inner) :: Tr.puts op num all l (i + 1) (if (k.op == 50) = true then hideK k.nm l else l) r
  else k.put inner :: Tr.puts op num all l (i + 1) (if (k.op == 50) = true then hideK k.nm inner else inner) r
end
def hideV (k : Tr) (l : KL) : KL := if (k.op == 50) = true then hideK k.nm l else l
def KLens (l : KL) : Prop := ∀ x ∈ l, ∀ t, x.2 = some t → t.Lens
theorem KLens.hide {l : KL} (h : KLens l) (nm : ByteArray) : KLens (hideK nm l) := fun x hx t ht => by
 rcases List.mem_cons.1 hx with rfl | hx
 · cases ht
 · exact h x hx t ht
theorem KLens.hideV {l : KL} (h : KLens l) (k : Tr) : KLens (hideV k l) := by
 unfold Go.Proofs.Ytklkbfpjimeaoaa.hideV
 split
 · exact h.hide _
 · exact h
theorem KLens.bind : ∀ (ks : List Tr) {l : KL}, KLens l → KLens (bindK ks l)
 | [], l, h => h
 | k :: r, l, h => by
  show KLens (bindK r (hideK k.nm l))
  exact KLens.bind r (h.hide _)
theorem Tr.Lens.mk' {op num : Int} {nm : ByteArray} {ks : List Tr} (h : (Tr.mk op nm num ks).Lens) : ks.length ≤ 1000000 ∧ ∀ k ∈ ks, k.Lens := by cases h; exact ⟨by assumption, by assumption⟩
end
end Go.Proofs.Ytklkbfpjimeaoaa
