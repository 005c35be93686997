import Derived.Test.YtklkbfpjimeaoaaGreatM28
/- Contracts of functions. Conditions: none. -/
set_option linter.unusedSimpArgs false
set_option linter.unusedVariables false
set_option maxRecDepth 20000
namespace Go.Proofs.YtklkbfpjimeaoaaGreat
open Go Go.Proofs.YtklkbfpjimeaoaaGreat.E
section
variable {K : KL}
theorem value_agree {K' : KL} (h : ∀ nm, findK nm K = findK nm K') : ∀ n (t : Tr), t.size ≤ n → t.value K = t.value K' ∧ t.span K = t.span K' := by
 intro n
 induction n with
 | zero => intro t h; exact absurd t.size_pos (by omega)
 | succ n ih =>
  intro t hsz
  obtain ⟨op, nm, num, ks⟩ := t
  have hI : ∀ k ∈ ks, k.value K = k.value K' ∧ k.span K = k.span K' := fun k hk => ih k (by have := Tr.size_mem hk; rw [Tr.size] at hsz; omega)
  have hvs : Tr.values K ks = Tr.values K' ks := by
   rw [values_get, values_get]
   exact List.map_congr_left fun k hk => (hI k hk).1
  have hss : Tr.spans K ks = Tr.spans K' ks := by
   rw [spans_get, spans_get]
   exact List.map_congr_left fun k hk => (hI k hk).2
  rw [Tr.value, Tr.value, Tr.span, Tr.span, hvs, hss]
  refine ⟨?_, rfl⟩
  unfold valN
  rw [h nm]
variable {l : List (ByteArray × Tr)}
theorem Agree.value (h : Agree K l) (t : Tr) : t.value (kl l) = t.value K := ((value_agree h t.size t (Nat.le_refl _)).1).symm
theorem Agree.static (h : Agree K l) (t : Tr) : staticV (kl l) t = staticV K t := by
 obtain ⟨op, nm, num, ks⟩ := t
 have hl : lastV (kl l) ks = lastV K ks := by
  unfold lastV
  cases ks.getLast? with
  | none => rfl
  | some k => exact h.value k
 rw [staticV, staticV, hl]
theorem Agree.cons (h : Agree K l) (nm : ByteArray) (v : Tr) : Agree ((nm, some v) :: K) (l ++ [(nm, v)]) := fun x => by
 rw [kl_snoc, findK, findK, h x]
theorem Agree.hideV (h : Agree K l) (t : Tr) : Agree (hideV t K) (if (t.op == 50) = true then woL l t.nm else l) := by
 unfold Go.Proofs.YtklkbfpjimeaoaaGreat.hideV
 cases t.op == 50
 · exact h
 · exact h.hide t.nm
def CV (n : Nat) (l : List (ByteArray × Tr)) : Prop := l.length ≤ n ∧ ∀ c ∈ l, ValOk c.2
variable {n : Nat}
theorem CV.clens (h : CV n l) (hn : n ≤ 1000) : CLens l := ⟨by have := h.1; omega, fun c hc => (h.2 c hc).lens⟩
theorem CV.cok (h : CV n l) (hn : n ≤ 1000) : COk l := ⟨by have := h.1; omega, fun c hc => ⟨(h.2 c hc).okT, by rw [(h.2 c hc).one]; omega⟩⟩
theorem CV.kok (h : CV n l) : KOk (kl l) := fun x hx t ht => by
 unfold kl at hx
 rw [List.mem_reverse, List.mem_map] at hx
 obtain ⟨c, hc, rfl⟩ := hx
 injection ht with ht
 subst ht
 exact h.2 c hc
theorem CV.wo (h : CV n l) (x : ByteArray) : CV n (woL l x) := ⟨Nat.le_trans (woL_len l x) h.1, fun c hc => h.2 c (List.mem_filter.1 hc).1⟩
theorem CV.snoc (h : CV n l) (nm : ByteArray) {v : Tr} (hv : ValOk v) : CV (n + 1) (l ++ [(nm, v)]) := ⟨by rw [List.length_append, List.length_singleton]; have := h.1; omega, fun c hc => by
 rcases List.mem_append.1 hc with hc | hc
 · exact h.2 c hc
 · rw [List.mem_singleton.1 hc]; exact hv⟩
theorem CV.mono {m : Nat} (h : CV n l) (hm : n ≤ m) : CV m l := ⟨Nat.le_trans h.1 hm, h.2⟩
def Tr.foldR (t : Tr) (l : KL) : Tr × Int := if ((t.op == 52 && isV (v0 (Tr.values l t.kids) 0) 2) && ((t.fold l).2 != 0)) = true then (.mk 66 ⟨#[]⟩ 0 [], (t.fold l).2) else t.fold l
theorem foldR_snd (t : Tr) (l : KL) : (t.foldR l).2 = (t.fold l).2 := by unfold Tr.foldR; split <;> rfl
theorem foldR_fst {t : Tr} {l : KL} (h : ((t.fold l).2 != 0) = false) : (t.foldR l).1 = (t.fold l).1 := by unfold Tr.foldR; rw [if_neg (by rw [h, Bool.and_false]; decide)]
variable {num : Int} {ks : List Tr}
theorem foldR_no {op : Int} {nm : ByteArray} {l : KL} (h : (op == 52 && isV (v0 (Tr.values l ks) 0) 2) = false) : (Tr.mk op nm num ks).foldR l = (Tr.mk op nm num ks).fold l := by
 unfold Tr.foldR
 rw [if_neg (by rw [show ((Tr.mk op nm num ks).op == 52 && isV (v0 (Tr.values l (Tr.mk op nm num ks).kids) 0) 2) = false from h, Bool.false_and]; decide)]
theorem foldR_ok {t : Tr} {l : KL} {x : Tr × Int} (h : ((t.fold l).2 != 0) = false) (hx : t.fold l = x) : t.foldR l = x := by
 unfold Tr.foldR
 rw [if_neg (by rw [h, Bool.and_false]; decide), hx]
theorem foldR_if {nm : ByteArray} {l : KL} {y : List Tr × Int} (h : ((52 : Int) == 52 && isV (v0 (Tr.values l ks) 0) 2) = true) (hy0 : y.2 ≠ 0 → y.1 = [])
 (hf : (Tr.mk 52 nm num ks).fold l = (if (y.2 != 0) = true then (z0, y.2) else (.mk 66 ⟨#[]⟩ 0 y.1, 0))) : (Tr.mk 52 nm num ks).foldR l = (.mk 66 ⟨#[]⟩ 0 y.1, y.2) := by
 unfold Tr.foldR
 rw [hf, show ((Tr.mk 52 nm num ks).op == 52 && isV (v0 (Tr.values l (Tr.mk 52 nm num ks).kids) 0) 2) = true from h]
 cases hq : (y.2 != 0) with
 | true =>
  simp only [hq, if_true, Bool.and_self]
  rw [hy0 (by simpa using hq)]
 | false =>
  have h0 : y.2 = 0 := by simpa using hq
  simp [h0]
theorem block_bare {name : ByteArray} (h : (Tr.mk 66 name num ks).shaped = true) : name = ⟨#[]⟩ ∧ num = 0 := by
 have h1 := (Tr.shaped_mk h).1
 rw [right66, Bool.and_eq_true] at h1
 have h2 := h1.2
 unfold bareB at h2
 rw [Bool.and_eq_true, decide_eq_true_eq, beq_iff_eq] at h2
 exact h2
set_option maxHeartbeats 16000000 in
theorem c202x (op num : Int) (name : ByteArray) (ks : List Tr) (hok : (Tr.mk op name num ks).Ok) (hsh : (Tr.mk op name num ks).shaped = true) (hst : isStmtB op = true) (hlen : (Tr.mk op name num ks).Lens) (n : Nat) (hn : n ≤ 1000) (l : List (ByteArray × Tr)) (K0 : KL) (hcv : CV n l) (hag : Agree K0 l)
 (hB : (op == 66) = true → Pf Tryz.prog 117 [.sl (ks.map Tr.d), .sl (l.map cD)] (.tup [.d (.sl (((Tr.block ks K0)).1.map Tr.d)), .d (.int .i64 ((Tr.block ks K0)).2)])) (hK : ∀ k ∈ ks, (k.op == 66) = true → ∀ (y : List (ByteArray × Tr)) (yk : KL), CV n y → Agree yk y → Pf Tryz.prog 117 [.sl (k.kids.map Tr.d), .sl (y.map cD)] (.tup [.d (.sl (((Tr.block k.kids yk)).1.map Tr.d)), .d (.int .i64 ((Tr.block k.kids yk)).2)])) : Pf Tryz.prog 202 [.agg [.int .i64 op, .str name, .int .i64 num, .sl (ks.map Tr.d)], .sl (l.map cD)] (.tup [.d ((Tr.mk op name num ks).foldR K0).1.d, .d (.int .i64 ((Tr.mk op name num ks).foldR K0).2)]) := by
 refine pf_body (rvs := [.cell 4 27, .tmp 5]) [(0, .d (.agg [.int .i64 op, .str name, .int .i64 num, .sl (ks.map Tr.d)])), (1, .d (.sl (l.map cD)))] Tryz.func202 Tryz.ntmps202 Tryz.results202 (fun S0 O0 w0 m0 hm0 => ?_)
 refine Z3 ?_
 obtain ⟨hlim, hks⟩ := hlen.mk'
 have hco := hcv.cok hn
 have hcl := hcv.clens hn
 have hl1 := hcl.1
 refine Z24 ?_;refine Z9 ?_;refine Z29 ?_;refine Z319 ?_
 refine G_seq_cut (α := Unit) (fun u => ⟨[(2, .d (.ptr (.agg [.int .i64 op, .str name, .int .i64 num, .sl (ks.map Tr.d)]))), (1, .d (.sl (l.map cD))), (4, .ref 0 0)], [[.d (.int .i64 0), .d (.str ⟨#[]⟩), .d (.int .i64 0), .nils]]⟩) (fun u => (op == 52 && isV (v0 (Tr.values K0 ks) 0) 2) = false) (fun Q' hn he hr => ?_) (fun u hu => ?_)
 ·
  refine Z3 ?_;refine Z408 ?_
  refine gC ?_ ?_ <;> intro hb0
  ·
   obtain rfl : op = 52 := by simpa using hb0
   obtain ⟨c0, r0, hks0, hlen3⟩ := if_facts hsh
   obtain ⟨cop, cnm, cnu, cks, hca⟩ := c0.d_agg
   have hcx : (ks.map Tr.d)[0]? = some (.agg [.int .i64 cop, .str cnm, .int .i64 cnu, .sl (cks.map Tr.d)]) := by rw [← hca, hks0]; rfl
   have hcm : c0 ∈ ks := by rw [hks0]; simp
   have hcok := Tr.kids_ok hok c0 hcm
   have hcsh := (Tr.shaped_mk hsh).2 c0 hcm
   have hv0 : v0 (Tr.values K0 ks) 0 = c0.value K0 := by rw [hks0]; rfl
   obtain ⟨⟨⟨⟨xop, xnm, xnu, xks⟩, xb⟩, hxv, q0⟩, _, _⟩ := c108n l hco hcv.kok _ c0 (Nat.le_refl _) hcok hcsh
   dsimp only at q0
   rw [Tr.d_mk] at q0
   rw [hag.value] at hxv
   have hvb : isV (c0.value K0) 2 = (xb && xop == 2) := by rw [← hxv, isV_optR]; rfl
   refine Z3 ?_;refine Z385 ?_
   refine gL (xs := [.tmp 28, .tmp 29]) rfl ((hca ▸ q0)) ?_
   refine Z430 ?_
   refine gF 1 [[.d (.int .i64 0), .d (.str ⟨#[]⟩), .d (.int .i64 0), .nils]] (.agg [.int .i64 xop, .str xnm, .int .i64 xnu, .sl (xks.map Tr.d)]) rfl ?_
   refine Z433 ?_;refine Z21 ?_;refine Z272 ?_
   refine sg rfl (fun hg => sP 36 rfl hg q_eql) ?_
   refine Z369 ?_
   refine gC ?_ ?_ <;> intro hb1
   ·
    have hxx : (xb && xop == 2) = true := hb1
    have hxb := (Bool.and_eq_true_iff.1 hxx).1
    have hxo : xop = 2 := by simpa using (Bool.and_eq_true_iff.1 hxx).2
    have hv : c0.value K0 = some (Tr.mk xop xnm xnu xks) := by rw [← hxv, optR, if_pos hxb]
    have hnu : xnu = 0 ∨ xnu = 1 := (value_ok (kl l) hcv.kok _ c0 (Nat.le_refl _) hcok hcsh (Tr.mk xop xnm xnu xks) (by rw [hag.value]; exact hv)).num hxo
    obtain ⟨p, hp, hp2⟩ : ∃ p : Nat, 2 - xnu = (p : Int) ∧ p ≤ 2 := by
     rcases hnu with h | h
     · exact ⟨2, by omega, by omega⟩
     · exact ⟨1, by omega, by omega⟩
    have hpt : part (Tr.values K0 ks) = (p : Int) := by unfold part; rw [hv0, hv]; exact hp
    have hgd : ((52 : Int) == 52 && isV (v0 (Tr.values K0 ks) 0) 2) = true := by rw [hv0, hvb, hxx]; rfl
    refine Z3 ?_;refine Z61 ?_;refine Z348 ?_;refine Z11 ?_;refine Z323 ?_
    refine vq rfl (q_sub (hw := (show IntKind.i64.wrap (2 - xnu) = ((p : Nat) : Int) from by rw [hp]; exact wrap_i64 (by omega) (by omega)))) ?_
    refine Z428 ?_
    refine gC ?_ ?_ <;> intro hb2
    ·
     have hlt : p < ks.length := by simpa using hb2
     obtain ⟨k, hk⟩ : ∃ k, ks[p]? = some k := ⟨_, gE hlt⟩
     have hmem := mG hk
     have hkb : (k.op == 66) = true := if_blocks hsh hk (by rcases hnu with h | h <;> omega)
     have hq := hK k hmem hkb l K0 hcv hag
     have hkg := kblocks_get ks K0 p hk
     obtain ⟨pop, pnm, pnu, pks⟩ := k
     have hpx := Tr.ds_get hk
     rw [Tr.d_mk] at hpx
     replace hq : Pf Tryz.prog 117 [.sl (pks.map Tr.d), .sl (l.map cD)] (.tup [.d (.sl (((Tr.block pks K0)).1.map Tr.d)), .d (.int .i64 ((Tr.block pks K0)).2)]) := hq
     have hfo : (Tr.mk 52 name num ks).fold K0 = (if ((Tr.block pks K0).2 != 0) = true then (z0, (Tr.block pks K0).2) else (.mk 66 ⟨#[]⟩ 0 (Tr.block pks K0).1, 0)) := by
      rw [Tr.fold, if_pos hgd, hpt, if_pos (by simpa using hlt), show ((p : Int)).toNat = p from Int.toNat_natCast p, hkg]; rfl
     have hfr : (Tr.mk 52 name num ks).foldR K0 = (.mk 66 ⟨#[]⟩ 0 (Tr.block pks K0).1, (Tr.block pks K0).2) := foldR_if hgd (block_err pks K0) hfo
     refine Z3 ?_;refine Z326 ?_;refine Z323 ?_
     refine vq rfl (q_sub (hw := (show IntKind.i64.wrap (2 - xnu) = ((p : Nat) : Int) from by rw [hp]; exact wrap_i64 (by omega) (by omega)))) ?_
     refine vq rfl (qI u22 sz27 (h0 := by omega) (hd := by rw [show ((p : Int)).toNat = p from Int.toNat_natCast _]; exact hpx)) ?_
     refine Z386 ?_
     refine gL (xs := [.tmp 55, .tmp 56]) rfl (hq) ?_
     refine Z389 ?_;refine Z378 ?_;refine Z97 ?_;refine Z196 ?_;refine Z7 ?_;refine Z55 ?_;refine Z0 ?_;refine Z19 ?_;refine Z327 ?_;refine Z259 ?_;refine Z50 ?_
     exact ⟨by rw [hfr, Tr.d_mk], rfl⟩
    have hnl : ¬ (part (Tr.values K0 ks) < (ks.length : Int)) := by
     have h : ¬ (p : Int) < (ks.map Tr.d).length := by simpa using hb2
     rw [List.length_map] at h
     rw [hpt]
     exact h
    have hfo : (Tr.mk 52 name num ks).fold K0 = (.mk 66 ⟨#[]⟩ 0 [], 0) := by rw [Tr.fold, if_pos hgd, if_neg (by simpa using hnl)]
    have hfr : (Tr.mk 52 name num ks).foldR K0 = (.mk 66 ⟨#[]⟩ 0 [], 0) := foldR_ok (by rw [hfo]; rfl) hfo
    refine Z46 ?_;refine Z412 ?_;refine Z317 ?_;refine Z259 ?_;refine Z50 ?_
    exact ⟨by rw [hfr, Tr.d_mk]; rfl, rfl⟩
   have hxx : (xb && xop == 2) = false := hb1
   refine Z205 ?_
   refine hn _ () (by rw [hv0, hvb, hxx]; rfl) le_of
  refine Z205 ?_
  refine hn _ () (by rw [show (op == 52) = false from hb0]; rfl) le_of
 skip
 refine Z3 ?_;refine Z323 ?_;refine Z336 ?_;refine Z323 ?_
 refine vq rfl ((q_buildP pl27 zr27)) ?_
 refine Z348 ?_;refine Z11 ?_;refine Z408 ?_
 refine gC ?_ ?_ <;> intro hb3
 ·
  have hq := hB hb3
  have h66 : op = 66 := by simpa using hb3
  obtain ⟨hnm, hnu⟩ := block_bare (h66 ▸ hsh)
  refine Z3 ?_;refine Z386 ?_
  refine gL (xs := [.tmp 77, .tmp 78]) rfl (hq) ?_
  refine Z389 ?_;refine Z378 ?_;refine Z97 ?_;refine Z196 ?_;refine Z7 ?_;refine Z55 ?_;refine Z0 ?_;refine Z19 ?_;refine Z413 ?_
  exact ⟨by rw [foldR_no (show (op == 52 && isV (v0 (Tr.values K0 ks) 0) 2) = false from by rw [hu]), Tr.fold, if_neg (by rw [hu]; decide), if_pos hb3, Tr.d_mk, h66, hnm, hnu], rfl⟩
 obtain ⟨h4, h67⟩ := stmt_ne hst
 have hps : (Tr.puts op num ks K0 0 K0 ks).length = ks.length := puts_len _ _ _ _ _ _ _
 have hput : (Tr.mk op name num ks).put K0 = .mk op name num (Tr.puts op num ks K0 0 K0 ks) := by rw [Tr.put, if_neg (by simpa using h4), if_neg (by simpa using h67)]
 have q37 := c37n _ (Tr.mk op name num ks) (Nat.le_refl _) hlen l K0 hcl hag
 rw [hput, Tr.d_mk, Tr.d_mk] at q37
 refine Z59 ?_;refine Z357 ?_
 refine g_loop (α := Nat × List Tr) (fun z => ⟨[(14, .d (.int .i64 (z.1 : Nat))), (2, .d (.ptr (.agg [.int .i64 op, .str name, .int .i64 num, .sl (ks.map Tr.d)]))), (1, .d (.sl (l.map cD))), (4, .ref 0 0), (11, .ref 1 0)], [[.d (.int .i64 0), .d (.str ⟨#[]⟩), .d (.int .i64 0), .nils], [.d (.int .i64 op), .d (.str name), .d (.int .i64 num), .osl 4 ((z.2).map Tr.d)]]⟩) (fun z => ks.length - z.1) (fun z => z.1 ≤ ks.length ∧ z.2.length = z.1 ∧ BI (Tr.bodies ks (if loopsB op num ks.length = true then bindK (ks.take num.toNat) K0 else K0) (Tr.puts op num ks K0 0 K0 ks)) (Tr.bodies (ks.drop z.1) (if loopsB op num ks.length = true then bindK (ks.take num.toNat) K0 else K0) ((Tr.puts op num ks K0 0 K0 ks).drop z.1)) z.2) (0, []) ⟨Nat.zero_le _, rfl, rfl, fun _ => rfl⟩ (fun z hz Q' hn0 he0 hr0 => ?_) (le_of)
 obtain ⟨z, acc⟩ := z
 obtain ⟨hz1, hz2, hz3⟩ := hz
 replace hz1 : z ≤ ks.length := hz1
 replace hz2 : acc.length = z := hz2
 replace hz3 : BI (Tr.bodies ks (if loopsB op num ks.length = true then bindK (ks.take num.toNat) K0 else K0) (Tr.puts op num ks K0 0 K0 ks)) (Tr.bodies (ks.drop z) (if loopsB op num ks.length = true then bindK (ks.take num.toNat) K0 else K0) ((Tr.puts op num ks K0 0 K0 ks).drop z)) acc := hz3
 refine Z355 ?_;refine Z428 ?_
 refine gC ?_ ?_ <;> intro hb4
 ·
  have hlt : z < ks.length := by simpa using hb4
  obtain ⟨k, hk⟩ : ∃ k, ks[z]? = some k := ⟨_, gE hlt⟩
  have hmem := mG hk
  obtain ⟨kop, knm, knu, kks⟩ := k
  have hxa := Tr.ds_get hk
  rw [Tr.d_mk] at hxa
  obtain ⟨⟨qop, qnm, qnu, qks⟩, hpz⟩ : ∃ p, (Tr.puts op num ks K0 0 K0 ks)[z]? = some p := ⟨_, gE (by omega)⟩
  have hqx := Tr.ds_get hpz
  rw [Tr.d_mk] at hqx
  have hdp : (Tr.puts op num ks K0 0 K0 ks).drop z = (Tr.mk qop qnm qnu qks) :: (Tr.puts op num ks K0 0 K0 ks).drop (z + 1) := by
   obtain ⟨h1, h2⟩ := List.getElem?_eq_some_iff.1 hpz
   rw [← h2]
   exact List.drop_eq_getElem_cons h1
  rw [bodies_drop hk, hdp] at hz3
  have hsn : acc.map Tr.d ++ [.agg [.int .i64 qop, .str qnm, .int .i64 qnu, .sl (qks.map Tr.d)]] = (acc ++ [(Tr.mk qop qnm qnu qks)]).map Tr.d := by rw [← Tr.d_mk, acc_snoc]
  refine Z26 ?_;refine Z386 ?_;refine Z416 ?_
  refine gF 2 [[.d (.int .i64 0), .d (.str ⟨#[]⟩), .d (.int .i64 0), .nils], [.d (.int .i64 op), .d (.str name), .d (.int .i64 num), .osl 4 ((acc).map Tr.d)]] (.agg [.int .i64 kop, .str knm, .int .i64 knu, .sl (kks.map Tr.d)]) rfl ?_
  refine Z11 ?_;refine Z323 ?_;refine Z350 ?_
  refine gC ?_ ?_ <;> intro hb5
  ·
   refine Z358 ?_;refine Z0 ?_
   refine gL (xs := [.tmp 101, .tmp 102]) rfl (q37) ?_
   refine Z348 ?_
   refine gF 2 [[.d (.int .i64 0), .d (.str ⟨#[]⟩), .d (.int .i64 0), .nils], [.d (.int .i64 op), .d (.str name), .d (.int .i64 num), .osl 4 ((acc).map Tr.d)]] (.agg [.int .i64 op, .str name, .int .i64 num, .sl ((Tr.puts op num ks K0 0 K0 ks).map Tr.d)]) rfl ?_
   refine Z42 ?_
   refine g_ck [(1, 8), (8, 10)] [104, 105, 106, 107, 108, 109, 110, 111, 112, 113] (fun bq => [[.d (.int .i64 0), .d (.str ⟨#[]⟩), .d (.int .i64 0), .nils], cond (bq 10) [.d (.int .i64 op), .d (.str name), .d (.int .i64 num), .osl 4 ((acc ++ [(Tr.mk qop qnm qnu qks)]).map Tr.d)] (cond (bq 1) [.d (.int .i64 op), .d (.str name), .d (.int .i64 num), .d (.sl (acc.map Tr.d))] [.d (.int .i64 op), .d (.str name), .d (.int .i64 num), .osl 4 (acc.map Tr.d)])]) rfl ?_
   refine Z81 ?_;refine Z106 ?_;refine Z232 ?_
   refine ck_st 2 (fun bq rest hc1 hc2 hc3 => by
    have h9 := hc3.no 8 1 hc1
    have h11 := hc3.no 10 8 h9
    have e1 : upd bq 1 1 = true := rfl
    have e2 : upd bq 1 10 = false := h11
    simp only [hc1, h11, cond_false]
    refine Z171 ?_
    exact (gN ⟨rfl, by rw [e1, e2]; rfl⟩)) ?_
   refine Z81 ?_
   refine ck_st 3 (fun _ _ _ _ _ => vq rfl (qF u27 rfl sz22) (gN ⟨rfl, rfl⟩)) ?_
   refine Z297 ?_;refine Z262 ?_;refine Z81 ?_;refine Z221 ?_
   refine ck_pre [3, 4] ?_
   refine Z251 ?_
   refine ck_pre [5] ?_
   refine Z230 ?_
   refine ck_pre [6] ?_
   refine ck_st 8 (fun _ _ _ _ _ => sv rfl (y_buildSlice (xs := [.tmp 110]) u22 inf27) (gN ⟨rfl, rfl⟩)) ?_
   refine ck_pre [1, 7] ?_
   refine ck_tk 9 105 (fun _ _ _ _ _ => sv rfl (y_append u22 inf27 (hk := by first | exact Tr.ds_cells _ | (intro x hx; simp at hx; subst hx; simp [D.cells])) (hlen := by simp [lim]; omega) (hB := by simp [lim]; omega)) (gN ⟨rfl, rfl⟩)) ?_
   rw [hsn]
   refine ck_pre [0, 2, 3, 4, 5, 6, 7] ?_
   refine ck_st 10 (fun _ _ _ _ _ => sv rfl (y_fieldAt 3 u27 rfl sz22) (gN ⟨rfl, rfl⟩)) ?_
   refine ck_pre [9, 8, 8, 0, 2, 3, 4, 5, 6, 7, 8] ?_
   refine ck_atk 11 112 (fun bq rest hc1 hc2 hc3 => by
    have h9 := hc2 8 dep_in
    have h1 := hc3 8 h9 1 dep_in
    have e1 : upd bq 10 10 = true := rfl
    simp only [hc1, h1, cond_true, cond_false]
    refine Z161 ?_
    exact (gN ⟨rfl, by rw [e1]; rfl⟩)) ?_
   refine ck_done (mem'' := [[.d (.int .i64 0), .d (.str ⟨#[]⟩), .d (.int .i64 0), .nils], [.d (.int .i64 op), .d (.str name), .d (.int .i64 num), .osl 4 ((acc ++ [(Tr.mk qop qnm qnu qks)]).map Tr.d)]]) ?_
   refine tN (G_exit (thn_exit (blk_exit (tN (gR ?_)))))
   refine Z349 ?_
   refine hn0 _ (z + 1, acc ++ [(Tr.mk qop qnm qnu qks)]) ⟨by show z + 1 ≤ ks.length; omega, by show (acc ++ [_]).length = z + 1; rw [List.length_append, List.length_singleton]; omega, hz3.keep (show (kop != 66) = true from hb5)⟩ (by show ks.length - (z + 1) < ks.length - z; omega) le_of
  have hkb : (kop == 66) = true := by simpa using hb5
  refine Z434 ?_;refine Z319 ?_
  refine G_seq_cut (α := List (ByteArray × Tr) × KL) (fun y => ⟨[(17, .d (.sl (y.1.map cD))), (15, .d (.ptr (.agg [.int .i64 kop, .str knm, .int .i64 knu, .sl (kks.map Tr.d)]))), (14, .d (.int .i64 (z : Nat))), (2, .d (.ptr (.agg [.int .i64 op, .str name, .int .i64 num, .sl (ks.map Tr.d)]))), (1, .d (.sl (l.map cD))), (4, .ref 0 0), (11, .ref 1 0)], [[.d (.int .i64 0), .d (.str ⟨#[]⟩), .d (.int .i64 0), .nils], [.d (.int .i64 op), .d (.str name), .d (.int .i64 num), .osl 4 ((acc).map Tr.d)]]⟩) (fun y => y.2 = (if loopsB op num ks.length = true then bindK (ks.take num.toNat) K0 else K0) ∧ Agree y.2 y.1 ∧ CV n y.1) (fun Q' hn he hr => ?_) (fun y hy => ?_)
  ·
   refine Z358 ?_
   refine gL (xs := [.tmp 115]) rfl ((Tr.d_mk op name num ks ▸ c111 (Tr.mk op name num ks))) ?_
   refine Z5 ?_
   refine gC ?_ ?_ <;> intro hb6
   ·
    have hlp := loops_num (show loopsB op num ks.length = true from hb6)
    refine Z318 ?_;refine Z35 ?_
    refine g_loop (α := Nat × List (ByteArray × Tr)) (fun j => ⟨[(18, .d (.int .i64 (j.1 : Nat))), (17, .d (.sl (j.2.map cD))), (15, .d (.ptr (.agg [.int .i64 kop, .str knm, .int .i64 knu, .sl (kks.map Tr.d)]))), (14, .d (.int .i64 (z : Nat))), (2, .d (.ptr (.agg [.int .i64 op, .str name, .int .i64 num, .sl (ks.map Tr.d)]))), (1, .d (.sl (l.map cD))), (4, .ref 0 0), (11, .ref 1 0)], [[.d (.int .i64 0), .d (.str ⟨#[]⟩), .d (.int .i64 0), .nils], [.d (.int .i64 op), .d (.str name), .d (.int .i64 num), .osl 4 ((acc).map Tr.d)]]⟩) (fun j => num.toNat - j.1) (fun j => j.1 ≤ num.toNat ∧ Agree (bindK (ks.take j.1) K0) j.2 ∧ CV n j.2) (0, l) ⟨Nat.zero_le _, hag, hcv⟩ (fun j hj Q' hn1 he1 hr1 => ?_) (le_of)
    obtain ⟨m, jl⟩ := j
    obtain ⟨hj1, hj2, hj3⟩ := hj
    replace hj1 : m ≤ num.toNat := hj1
    replace hj2 : Agree (bindK (ks.take m) K0) jl := hj2
    replace hj3 : CV n jl := hj3
    have hjl := hj3.1
    refine Z355 ?_;refine Z323 ?_;refine Z346 ?_
    refine gC ?_ ?_ <;> intro hb7
    ·
     have hlt2 : (m : Int) < num := by simpa using hb7
     obtain ⟨a, hka⟩ : ∃ a, ks[m]? = some a := ⟨_, gE (by omega)⟩
     obtain ⟨aop, anm, anu, aks⟩ := a
     have hxb := Tr.ds_get hka
     rw [Tr.d_mk] at hxb
     refine gK (tN (gS (G_block (gR ?_))))
     refine Z0 ?_;refine Z386 ?_;refine Z40 ?_;refine Z336 ?_
     refine gL (xs := [.tmp 123, .tmp 129]) rfl (c112 jl anm (by omega)) ?_
     refine Z1 ?_;refine Z95 ?_;refine Z349 ?_
     refine hn1 _ (m + 1, woL jl anm) ⟨by show m + 1 ≤ num.toNat; omega, by show Agree (bindK (ks.take (m + 1)) K0) (woL jl anm); rw [bindK_step hka]; exact hj2.hide anm, hj3.wo anm⟩ (by show num.toNat - (m + 1) < num.toNat - m; omega) le_of
    have hnn : m = num.toNat := by
     have : ¬ (m : Int) < num := by simpa using hb7
     omega
    refine Z439 ?_
    refine blk_exit ?_
    refine hn _ (jl, bindK (ks.take num.toNat) K0) ⟨by rw [if_pos (show loopsB op num ks.length = true from hb6)], hnn ▸ hj2, hj3⟩ le_of
   refine Z205 ?_
   refine hn _ (l, K0) ⟨by rw [if_neg (by rw [show loopsB op num ks.length = false from hb6]; decide)], hag, hcv⟩ le_of
  obtain ⟨y, yk⟩ := y
  obtain ⟨hy1, hy2, hy3⟩ := hy
  replace hy1 : yk = (if loopsB op num ks.length = true then bindK (ks.take num.toNat) K0 else K0) := hy1
  replace hy2 : Agree yk y := hy2
  replace hy3 : CV n y := hy3
  have hq : Pf Tryz.prog 117 [.sl (kks.map Tr.d), .sl (y.map cD)] (.tup [.d (.sl (((Tr.block kks yk)).1.map Tr.d)), .d (.int .i64 ((Tr.block kks yk)).2)]) := hK _ hmem hkb y yk hy3 hy2
  have hsn2 : acc.map Tr.d ++ [.agg [.int .i64 66, .str ⟨#[]⟩, .int .i64 0, .sl ((Tr.block kks yk).1.map Tr.d)]] = (acc ++ [Tr.mk 66 ⟨#[]⟩ 0 (Tr.block kks yk).1]).map Tr.d := by rw [← Tr.d_mk, acc_snoc]
  refine Z3 ?_;refine Z386 ?_
  refine gL (xs := [.tmp 133, .tmp 134]) rfl (hq) ?_
  refine Z389 ?_;refine Z440 ?_
  refine gC ?_ ?_ <;> intro hb8
  ·
   have he : ((Tr.block kks yk).2 != 0) = true := hb8
   have hX : (Tr.bodies ks (if loopsB op num ks.length = true then bindK (ks.take num.toNat) K0 else K0) (Tr.puts op num ks K0 0 K0 ks)).2 = (Tr.block kks yk).2 := by rw [hz3.err (show (kop != 66) = false from hb5) (by rw [Tr.kblock, ← hy1]; exact he), Tr.kblock, ← hy1]
   refine Z3 ?_;refine Z61 ?_;refine Z0 ?_;refine Z19 ?_;refine Z396 ?_;refine Z368 ?_;refine Z50 ?_
   exact ⟨by rw [foldR_no (show (op == 52 && isV (v0 (Tr.values K0 ks) 0) 2) = false from by rw [hu]), Tr.fold, if_neg (by rw [hu]; decide), if_neg (by rw [show (op == 66) = false from hb3]; decide), if_pos (by rw [hX]; exact he), hX]; rfl, rfl⟩
  have he : ((Tr.block kks yk).2 != 0) = false := hb8
  refine gK (tN (gR ?_))
  refine Z97 ?_;refine Z171 ?_;refine Z0 ?_;refine Z61 ?_
  refine sv rfl (y_buildSlice (xs := [.tmp 145]) u22 inf27) ?_
  refine Z66 ?_
  rw [hsn2]
  refine Z97 ?_;refine Z161 ?_;refine Z95 ?_;refine Z349 ?_
  refine hn0 _ (z + 1, acc ++ [Tr.mk 66 ⟨#[]⟩ 0 (Tr.block kks yk).1]) ⟨by show z + 1 ≤ ks.length; omega, by show (acc ++ [_]).length = z + 1; rw [List.length_append, List.length_singleton]; omega, hy1 ▸ hz3.block (show (kop != 66) = false from hb5) (by rw [Tr.kblock, ← hy1]; exact he)⟩ (by show ks.length - (z + 1) < ks.length - z; omega) le_of
 have hge : z = ks.length := by
  have : ¬ (z : Int) < (ks.map Tr.d).length := by simpa using hb4
  rw [List.length_map] at this
  omega
 subst hge
 have hps2 : (Tr.puts op num ks K0 0 K0 ks).drop ks.length = [] := List.drop_eq_nil_of_le (by omega)
 rw [List.drop_length, hps2, Tr.bodies] at hz3
 have hX2 : (Tr.bodies ks (if loopsB op num ks.length = true then bindK (ks.take num.toNat) K0 else K0) (Tr.puts op num ks K0 0 K0 ks)).2 = 0 := hz3.1
 have hX1 := hz3.2 hX2
 rw [List.append_nil] at hX1
 refine Z347 ?_;refine Z412 ?_;refine Z438 ?_
 exact ⟨by rw [foldR_no (show (op == 52 && isV (v0 (Tr.values K0 ks) 0) 2) = false from by rw [hu]), Tr.fold, if_neg (by rw [hu]; decide), if_neg (by rw [show (op == 66) = false from hb3]; decide), if_neg (by rw [hX2]; decide), hX1, Tr.d_mk], rfl⟩
end
section
theorem sizes_get : ∀ {ks : List Tr} {z : Nat} {k : Tr}, ks[z]? = some k → z + k.size ≤ Tr.sizes ks
 | x :: r, 0, k, h => by
  injection h with h
  subst h
  rw [Tr.sizes]; omega
 | x :: r, z + 1, k, h => by
  have h1 := sizes_get (ks := r) (z := z) (k := k) (by simpa using h)
  have := x.size_pos
  rw [Tr.sizes]; omega
theorem varp_eq {op num : Int} (h : (op == 50) = true → 0 ≤ num ∧ num ≤ 15) : isVarP op num = (op == 50 && num / 8 % 2 == 1) := by
 unfold isVarP
 cases hq : (op == 50) with
 | false => rfl
 | true =>
  rw [Bool.true_and, Bool.true_and]
  have hb := (andI_bits (h hq)).2.2
  by_cases h8 : andI num 8 = 0
  · have h9 := hb.1 h8
    rw [h8, h9]; rfl
  · have h9 : num / 8 % 2 = 1 := by
     have h1 : ¬ num / 8 % 2 = 0 := fun h => h8 (hb.2 h)
     omega
    rw [h9]
    simpa using h8
theorem shaped_var {op num : Int} {nm : ByteArray} {ks : List Tr} (h : (Tr.mk op nm num ks).shaped = true) : (op == 50) = true → 0 ≤ num ∧ num ≤ 15 := fun h50 => by
 obtain rfl : op = 50 := by simpa using h50
 have := var_facts h
 exact ⟨this.1, this.2.1⟩
set_option maxHeartbeats 16000000 in
theorem c117x (ks : List Tr) (hlim : ks.length ≤ 1000000) (hks : ∀ t ∈ ks, t.Ok ∧ t.shaped = true) (n : Nat) (hn : n + Tr.sizes ks ≤ 1000)
 (hA : ∀ t ∈ ks, ∀ (m : Nat) (l : List (ByteArray × Tr)) (K : KL), m + t.size ≤ 1000 → CV m l → Agree K l → Pf Tryz.prog 202 [t.d, .sl (l.map cD)] (.tup [.d (t.foldR K).1.d, .d (.int .i64 (t.foldR K).2)])) (l0 : List (ByteArray × Tr)) (K0 : KL) (hcv : CV n l0) (hag : Agree K0 l0) : Pf Tryz.prog 117 [.sl (ks.map Tr.d), .sl (l0.map cD)] (.tup [.d (.sl ((Tr.block ks K0).1.map Tr.d)), .d (.int .i64 (Tr.block ks K0).2)]) := by
 refine pf_body (rvs := [.tmp 4, .tmp 5]) [(0, .d (.sl (ks.map Tr.d))), (1, .d (.sl (l0.map cD)))] Tryz.func117 Tryz.ntmps117 Tryz.results117 (fun S0 O0 w0 m0 hm0 => ?_)
 refine Z3 ?_
 have hsl := Tr.len_sizes ks
 refine Z1 ?_;refine Z324 ?_;refine Z266 ?_;refine Z63 ?_;refine Z11 ?_;refine Z357 ?_
 refine g_loop (α := Nat × List Tr × List (ByteArray × Tr) × KL) (fun z => ⟨[(7, .d (.int .i64 (z.1 : Nat))), (6, .osl 4 (z.2.1.map Tr.d)), (0, .d (.sl (ks.map Tr.d))), (1, .d (.sl (z.2.2.1.map cD)))], []⟩) (fun z => ks.length - z.1) (fun z => z.1 ≤ ks.length ∧ z.2.1.length ≤ z.1 ∧ CV (n + z.1) z.2.2.1 ∧ Agree z.2.2.2 z.2.2.1 ∧ Tr.block ks K0 = contB z.2.1 (Tr.block (ks.drop z.1) z.2.2.2)) (0, [], l0, K0) ⟨Nat.zero_le _, Nat.le_refl _, hcv, hag, by rw [List.drop_zero, contB_nil]⟩ (fun z hz Q' hn0 he0 hr0 => ?_) (le_of)
 obtain ⟨z, acc, l, c⟩ := z
 obtain ⟨hz1, hz2, hz3, hz5, hz4⟩ := hz
 replace hz1 : z ≤ ks.length := hz1
 replace hz2 : acc.length ≤ z := hz2
 replace hz3 : CV (n + z) l := hz3
 replace hz5 : Agree c l := hz5
 replace hz4 : Tr.block ks K0 = contB acc (Tr.block (ks.drop z) c) := hz4
 have hll := hz3.1
 refine Z44 ?_;refine Z321 ?_;refine Z45 ?_;refine Z346 ?_
 refine gC ?_ ?_ <;> intro hb0
 ·
  have hlt : z < ks.length := by simpa using hb0
  obtain ⟨k, hk⟩ : ∃ k, ks[z]? = some k := ⟨_, gE hlt⟩
  have hmem := mG hk
  obtain ⟨kop, knm, knu, kks⟩ := k
  have hxa := Tr.ds_get hk
  rw [Tr.d_mk] at hxa
  have hsg := sizes_get hk
  obtain ⟨hok1, hsh1⟩ := hks _ hmem
  have hvr := shaped_var hsh1
  have hve := varp_eq hvr
  have hpz := Tr.size_pos (Tr.mk kop knm knu kks)
  refine Z26 ?_;refine Z321 ?_;refine Z416 ?_;refine Z84 ?_;refine Z11 ?_;refine Z364 ?_;refine Z337 ?_
  refine sg rfl (fun hg => sP 28 rfl hg (qL u3)) ?_
  refine sg rfl (fun hg => sP 29 rfl hg (q_quo (show (8 : Int) ≠ 0 by decide) (show IntKind.i64.wrap (knu.tdiv 8) = knu / 8 from by have := hvr (by simpa using hg); rw [Int.tdiv_eq_ediv_of_nonneg (by omega)]; exact wrap_i64 (by omega) (by omega)))) ?_
  refine sg rfl (fun hg => sP 30 rfl hg (q_rem (show (2 : Int) ≠ 0 by decide) (show (knu / 8).tmod 2 = knu / 8 % 2 from Int.tmod_eq_emod_of_nonneg (by have := hvr (by simpa using hg); omega)))) ?_
  refine sg rfl (fun hg => sP 31 rfl hg q_eql) ?_
  refine Z369 ?_
  refine gC ?_ ?_ <;> intro hb1
  ·
   have hvp : isVarP (Tr.mk kop knm knu kks).op (Tr.mk kop knm knu kks).nu = true := hve.trans hb1
   obtain rfl : kop = 50 := by have := (Bool.and_eq_true_iff.1 hb1).1; simpa using this
   have hcv1 := hz3
   refine Z51 ?_
   rcases hv : staticV (kl l) (Tr.mk 50 knm knu kks) with _ | ⟨vop, vnm, vnu, vks⟩
   ·
    refine Z441 ?_
    have q := c134 l (hcv1.cok (by omega)) hcv1.kok knm knu kks hok1 hsh1
    rw [hv] at q
    rw [show cD (paramO knm none).1 = .agg [.str ⟨#[]⟩, .int .i64 0, .str ⟨#[]⟩, .int .i64 0, .sl []] from cD_mk _ _ _ _ _] at q
    replace q : Pf Tryz.prog 134 _ (.tup [.d (.agg [.str ⟨#[]⟩, .int .i64 0, .str ⟨#[]⟩, .int .i64 0, .sl []]), .d (.int .i64 140)]) := q
    refine Z6 ?_;refine Z0 ?_
    refine gL (xs := [.tmp 35, .tmp 36]) rfl (q) ?_
    refine Z340 ?_;refine Z293 ?_;refine Z179 ?_;refine Z440 ?_
    refine gC ?_ ?_ <;> intro hb2
    ·
     refine Z352 ?_;refine Z1 ?_;refine Z1 ?_;refine Z291 ?_;refine Z368 ?_;refine Z71 ?_
     exact ⟨by rw [hz4, block_drop hk, block_param hvp, ← hz5.static, hv]; rfl, rfl⟩
    exact Y22
   refine Z441 ?_
   have q := c134 l (hcv1.cok (by omega)) hcv1.kok knm knu kks hok1 hsh1
   rw [hv] at q
   rw [show cD (paramO knm (some (Tr.mk vop vnm vnu vks))).1 = .agg [.str knm, .int .i64 vop, .str vnm, .int .i64 vnu, .sl (vks.map Tr.d)] from cD_mk _ _ _ _ _] at q
   replace q : Pf Tryz.prog 134 _ (.tup [.d (.agg [.str knm, .int .i64 vop, .str vnm, .int .i64 vnu, .sl (vks.map Tr.d)]), .d (.int .i64 0)]) := q
   have hvo : ValOk (Tr.mk vop vnm vnu vks) := static_ok hcv1.kok hok1 hsh1 hv
   have hcs : l.map cD ++ [.agg [.str knm, .int .i64 vop, .str vnm, .int .i64 vnu, .sl (vks.map Tr.d)]] = (l ++ [(knm, (Tr.mk vop vnm vnu vks))]).map cD := by rw [List.map_append, List.map_singleton, cD_mk]
   refine Z6 ?_;refine Z0 ?_
   refine gL (xs := [.tmp 35, .tmp 36]) rfl (q) ?_
   refine Z340 ?_;refine Z293 ?_;refine Z179 ?_
   refine gF 0 [] (.agg [.str knm, .int .i64 vop, .str vnm, .int .i64 vnu, .sl (vks.map Tr.d)]) rfl ?_
   refine Z440 ?_
   refine gC ?_ ?_ <;> intro hb3
   · exact Y15
   refine Z67 ?_
   refine G_drawB 7 rfl (by kernel_rfl) (fun S1 O1 w1 m1 hm1 hm2 => ?_)
   have hB1 : ∀ i, i < m1.length → (List.range m1.length).contains i = true := fun i hi => by simpa using hi
   refine bq 3 hB1 rfl (qG (by exact sz59) u59 rfl) ?_
   refine GB_go ?_
   refine ga3 0 1 4 ?_ ?_ ?_
   ·
    refine Z143 ?_
    refine gN ⟨rfl, ?_⟩
    refine ga2 1 4 ?_ ?_
    ·
     refine Z0 ?_
     refine gN ⟨rfl, ?_⟩
     refine ga2 2 4 ?_ ?_
     ·
      refine Z60 ?_
      refine gN ⟨rfl, ?_⟩
      refine Z313 ?_;refine Z145 ?_
      refine gN ⟨rfl, ?_⟩
      refine Z270 ?_;refine Z32 ?_
      rw [hcs]
      refine gN ⟨rfl, ?_⟩
      refine Z261 ?_;refine Z63 ?_
      refine gN ⟨rfl, ?_⟩
      refine Z108 ?_;refine Z155 ?_;refine Z441 ?_
      skip
      refine Z349 ?_
      refine hn0 _ (z + 1, acc, l ++ [(knm, (Tr.mk vop vnm vnu vks))], (knm, some (Tr.mk vop vnm vnu vks)) :: c) ⟨by show z + 1 ≤ ks.length; omega, by show acc.length ≤ z + 1; omega, (hz3.snoc knm hvo).mono (by show n + z + 1 ≤ n + (z + 1); omega), hz5.cons knm (Tr.mk vop vnm vnu vks), by rw [hz4, block_drop hk, block_param hvp, ← hz5.static, hv]; rfl⟩ (by show ks.length - (z + 1) < ks.length - z; omega) le_of
     refine Z145 ?_
     refine gN ⟨rfl, ?_⟩
     refine Z314 ?_;refine Z60 ?_
     refine gN ⟨rfl, ?_⟩
     refine Z270 ?_;refine Z32 ?_
     rw [hcs]
     refine gN ⟨rfl, ?_⟩
     refine Z261 ?_;refine Z63 ?_
     refine gN ⟨rfl, ?_⟩
     refine Z108 ?_;refine Z155 ?_;refine Z441 ?_
     skip
     refine Z349 ?_
     refine hn0 _ (z + 1, acc, l ++ [(knm, (Tr.mk vop vnm vnu vks))], (knm, some (Tr.mk vop vnm vnu vks)) :: c) ⟨by show z + 1 ≤ ks.length; omega, by show acc.length ≤ z + 1; omega, (hz3.snoc knm hvo).mono (by show n + z + 1 ≤ n + (z + 1); omega), hz5.cons knm (Tr.mk vop vnm vnu vks), by rw [hz4, block_drop hk, block_param hvp, ← hz5.static, hv]; rfl⟩ (by show ks.length - (z + 1) < ks.length - z; omega) le_of
    refine Z145 ?_
    refine gN ⟨rfl, ?_⟩
    refine ga1 1 ?_
    refine Z0 ?_
    refine gN ⟨rfl, ?_⟩
    refine Z314 ?_;refine Z60 ?_
    refine gN ⟨rfl, ?_⟩
    refine Z270 ?_;refine Z32 ?_
    rw [hcs]
    refine gN ⟨rfl, ?_⟩
    refine Z261 ?_;refine Z63 ?_
    refine gN ⟨rfl, ?_⟩
    refine Z108 ?_;refine Z155 ?_;refine Z441 ?_
    skip
    refine Z349 ?_
    refine hn0 _ (z + 1, acc, l ++ [(knm, (Tr.mk vop vnm vnu vks))], (knm, some (Tr.mk vop vnm vnu vks)) :: c) ⟨by show z + 1 ≤ ks.length; omega, by show acc.length ≤ z + 1; omega, (hz3.snoc knm hvo).mono (by show n + z + 1 ≤ n + (z + 1); omega), hz5.cons knm (Tr.mk vop vnm vnu vks), by rw [hz4, block_drop hk, block_param hvp, ← hz5.static, hv]; rfl⟩ (by show ks.length - (z + 1) < ks.length - z; omega) le_of
   ·
    refine Z0 ?_
    refine gN ⟨rfl, ?_⟩
    refine ga2 0 4 ?_ ?_
    ·
     refine Z143 ?_
     refine gN ⟨rfl, ?_⟩
     refine ga2 2 4 ?_ ?_
     ·
      refine Z60 ?_
      refine gN ⟨rfl, ?_⟩
      refine Z313 ?_;refine Z145 ?_
      refine gN ⟨rfl, ?_⟩
      refine Z270 ?_;refine Z32 ?_
      rw [hcs]
      refine gN ⟨rfl, ?_⟩
      refine Z261 ?_;refine Z63 ?_
      refine gN ⟨rfl, ?_⟩
      refine Z108 ?_;refine Z155 ?_;refine Z441 ?_
      skip
      refine Z349 ?_
      refine hn0 _ (z + 1, acc, l ++ [(knm, (Tr.mk vop vnm vnu vks))], (knm, some (Tr.mk vop vnm vnu vks)) :: c) ⟨by show z + 1 ≤ ks.length; omega, by show acc.length ≤ z + 1; omega, (hz3.snoc knm hvo).mono (by show n + z + 1 ≤ n + (z + 1); omega), hz5.cons knm (Tr.mk vop vnm vnu vks), by rw [hz4, block_drop hk, block_param hvp, ← hz5.static, hv]; rfl⟩ (by show ks.length - (z + 1) < ks.length - z; omega) le_of
     refine Z145 ?_
     refine gN ⟨rfl, ?_⟩
     refine Z314 ?_;refine Z60 ?_
     refine gN ⟨rfl, ?_⟩
     refine Z270 ?_;refine Z32 ?_
     rw [hcs]
     refine gN ⟨rfl, ?_⟩
     refine Z261 ?_;refine Z63 ?_
     refine gN ⟨rfl, ?_⟩
     refine Z108 ?_;refine Z155 ?_;refine Z441 ?_
     skip
     refine Z349 ?_
     refine hn0 _ (z + 1, acc, l ++ [(knm, (Tr.mk vop vnm vnu vks))], (knm, some (Tr.mk vop vnm vnu vks)) :: c) ⟨by show z + 1 ≤ ks.length; omega, by show acc.length ≤ z + 1; omega, (hz3.snoc knm hvo).mono (by show n + z + 1 ≤ n + (z + 1); omega), hz5.cons knm (Tr.mk vop vnm vnu vks), by rw [hz4, block_drop hk, block_param hvp, ← hz5.static, hv]; rfl⟩ (by show ks.length - (z + 1) < ks.length - z; omega) le_of
    refine Z145 ?_
    refine gN ⟨rfl, ?_⟩
    refine ga1 0 ?_
    refine Z143 ?_
    refine gN ⟨rfl, ?_⟩
    refine Z314 ?_;refine Z60 ?_
    refine gN ⟨rfl, ?_⟩
    refine Z270 ?_;refine Z32 ?_
    rw [hcs]
    refine gN ⟨rfl, ?_⟩
    refine Z261 ?_;refine Z63 ?_
    refine gN ⟨rfl, ?_⟩
    refine Z108 ?_;refine Z155 ?_;refine Z441 ?_
    skip
    refine Z349 ?_
    refine hn0 _ (z + 1, acc, l ++ [(knm, (Tr.mk vop vnm vnu vks))], (knm, some (Tr.mk vop vnm vnu vks)) :: c) ⟨by show z + 1 ≤ ks.length; omega, by show acc.length ≤ z + 1; omega, (hz3.snoc knm hvo).mono (by show n + z + 1 ≤ n + (z + 1); omega), hz5.cons knm (Tr.mk vop vnm vnu vks), by rw [hz4, block_drop hk, block_param hvp, ← hz5.static, hv]; rfl⟩ (by show ks.length - (z + 1) < ks.length - z; omega) le_of
   refine Z145 ?_
   refine gN ⟨rfl, ?_⟩
   refine ga2 0 1 ?_ ?_
   ·
    refine Z143 ?_
    refine gN ⟨rfl, ?_⟩
    refine ga1 1 ?_
    refine Z0 ?_
    refine gN ⟨rfl, ?_⟩
    refine Z314 ?_;refine Z60 ?_
    refine gN ⟨rfl, ?_⟩
    refine Z270 ?_;refine Z32 ?_
    rw [hcs]
    refine gN ⟨rfl, ?_⟩
    refine Z261 ?_;refine Z63 ?_
    refine gN ⟨rfl, ?_⟩
    refine Z108 ?_;refine Z155 ?_;refine Z441 ?_
    skip
    refine Z349 ?_
    refine hn0 _ (z + 1, acc, l ++ [(knm, (Tr.mk vop vnm vnu vks))], (knm, some (Tr.mk vop vnm vnu vks)) :: c) ⟨by show z + 1 ≤ ks.length; omega, by show acc.length ≤ z + 1; omega, (hz3.snoc knm hvo).mono (by show n + z + 1 ≤ n + (z + 1); omega), hz5.cons knm (Tr.mk vop vnm vnu vks), by rw [hz4, block_drop hk, block_param hvp, ← hz5.static, hv]; rfl⟩ (by show ks.length - (z + 1) < ks.length - z; omega) le_of
   refine Z0 ?_
   refine gN ⟨rfl, ?_⟩
   refine ga1 0 ?_
   refine Z143 ?_
   refine gN ⟨rfl, ?_⟩
   refine Z314 ?_;refine Z60 ?_
   refine gN ⟨rfl, ?_⟩
   refine Z270 ?_;refine Z32 ?_
   rw [hcs]
   refine gN ⟨rfl, ?_⟩
   refine Z261 ?_;refine Z63 ?_
   refine gN ⟨rfl, ?_⟩
   refine Z108 ?_;refine Z155 ?_;refine Z441 ?_
   skip
   refine Z349 ?_
   refine hn0 _ (z + 1, acc, l ++ [(knm, (Tr.mk vop vnm vnu vks))], (knm, some (Tr.mk vop vnm vnu vks)) :: c) ⟨by show z + 1 ≤ ks.length; omega, by show acc.length ≤ z + 1; omega, (hz3.snoc knm hvo).mono (by show n + z + 1 ≤ n + (z + 1); omega), hz5.cons knm (Tr.mk vop vnm vnu vks), by rw [hz4, block_drop hk, block_param hvp, ← hz5.static, hv]; rfl⟩ (by show ks.length - (z + 1) < ks.length - z; omega) le_of
  have hvp : isVarP (Tr.mk kop knm knu kks).op (Tr.mk kop knm knu kks).nu = false := hve.trans hb1
  have hsd := ((Tr.mk kop knm knu kks).foldR c).1.d_eta
  refine Z67 ?_;refine Z88 ?_;refine Z401 ?_;refine Z0 ?_
  refine gL (xs := [.tmp 50, .tmp 51]) rfl ((hsd ▸ Tr.d_mk kop knm knu kks ▸ hA _ hmem (n + z) l c (by omega) hz3 hz5)) ?_
  refine Z430 ?_
  refine gF 0 [] (.agg [.int .i64 ((Tr.mk kop knm knu kks).foldR c).1.op, .str ((Tr.mk kop knm knu kks).foldR c).1.nm, .int .i64 ((Tr.mk kop knm knu kks).foldR c).1.nu, .sl (((Tr.mk kop knm knu kks).foldR c).1.kids.map Tr.d)]) rfl ?_
  refine Z440 ?_
  refine gC ?_ ?_ <;> intro hb4
  ·
   have he : (((Tr.mk kop knm knu kks).fold c).2 != 0) = true := by rw [← foldR_snd]; exact hb4
   refine Z352 ?_;refine Z1 ?_;refine Z396 ?_;refine Z368 ?_;refine Z71 ?_
   exact ⟨by rw [hz4, block_drop hk, contB_err hvp he, ← foldR_snd]; rfl, rfl⟩
  have he : (((Tr.mk kop knm knu kks).fold c).2 != 0) = false := by rw [← foldR_snd]; exact hb4
  refine Z59 ?_;refine Z408 ?_
  refine gC ?_ ?_ <;> intro hb5
  ·
   refine Z88 ?_;refine Z335 ?_;refine Z336 ?_
   refine gL (xs := [.tmp 61, .tmp 63]) rfl (c112 l knm (by omega)) ?_
   refine Z1 ?_;refine Z178 ?_;refine Z119 ?_;refine Z6 ?_
   refine sv rfl (y_buildSlice (xs := [.tmp 66]) u22 inf27) ?_
   refine Z66 ?_
   rw [← hsd, show acc.map Tr.d ++ [((Tr.mk kop knm knu kks).foldR c).1.d] = (acc ++ [((Tr.mk kop knm knu kks).foldR c).1]).map Tr.d from by rw [List.map_append]; rfl]
   refine Z63 ?_;refine Z95 ?_
   skip
   refine Z349 ?_
   refine hn0 _ (z + 1, acc ++ [((Tr.mk kop knm knu kks).foldR c).1], woL l knm, hideK knm c) ⟨by show z + 1 ≤ ks.length; omega, by show (acc ++ [_]).length ≤ z + 1; rw [List.length_append, List.length_singleton]; omega, (hz3.wo knm).mono (by show n + z ≤ n + (z + 1); omega), hz5.hide knm, by rw [hz4, block_drop hk, contB_step hvp he, show hideV (Tr.mk kop knm knu kks) c = hideK knm c from hideV_t hb5, foldR_fst he]⟩ (by show ks.length - (z + 1) < ks.length - z; omega) le_of
  refine Z127 ?_;refine Z441 ?_;refine Z119 ?_;refine Z6 ?_
  refine sv rfl (y_buildSlice (xs := [.tmp 66]) u22 inf27) ?_
  refine Z66 ?_
  rw [← hsd, show acc.map Tr.d ++ [((Tr.mk kop knm knu kks).foldR c).1.d] = (acc ++ [((Tr.mk kop knm knu kks).foldR c).1]).map Tr.d from by rw [List.map_append]; rfl]
  refine Z63 ?_;refine Z95 ?_
  skip
  refine Z349 ?_
  refine hn0 _ (z + 1, acc ++ [((Tr.mk kop knm knu kks).foldR c).1], l, c) ⟨by show z + 1 ≤ ks.length; omega, by show (acc ++ [_]).length ≤ z + 1; rw [List.length_append, List.length_singleton]; omega, hz3.mono (by show n + z ≤ n + (z + 1); omega), hz5, by rw [hz4, block_drop hk, contB_step hvp he, show hideV (Tr.mk kop knm knu kks) c = c from hideV_f hb5, foldR_fst he]⟩ (by show ks.length - (z + 1) < ks.length - z; omega) le_of
 have hge : z = ks.length := by
  have : ¬ (z : Int) < (ks.map Tr.d).length := by simpa using hb0
  rw [List.length_map] at this
  omega
 refine Z347 ?_;refine Z0 ?_;refine Z1 ?_;refine Z317 ?_;refine Z71 ?_
 exact Y4
theorem c202 : ∀ (n : Nat) (t : Tr), t.size ≤ n → SFit t → ∀ (m : Nat) (l : List (ByteArray × Tr)) (K : KL), m + t.size ≤ 1000 → CV m l → Agree K l → Pf Tryz.prog 202 [t.d, .sl (l.map cD)] (.tup [.d (t.foldR K).1.d, .d (.int .i64 (t.foldR K).2)]) := by
 intro n
 induction n with
 | zero => intro t h; exact absurd t.size_pos (by omega)
 | succ n ih =>
  intro t hsz hf m l K hm hcv hag
  obtain ⟨op, name, num, ks⟩ := t
  obtain ⟨hok, hsh, hst, hlen⟩ := hf
  obtain ⟨hlim, hks⟩ := hlen.mk'
  have hts : (Tr.mk op name num ks).size = 1 + Tr.sizes ks := by rw [Tr.size]
  have hkd : ∀ k ∈ ks, k.size ≤ n := fun k hk => by
   have := Tr.size_mem hk
   omega
  rw [Tr.d_mk]
  refine c202x op num name ks hok hsh hst hlen m (by omega) l K hcv hag (fun h66 => ?_) (fun k hk hkb y yk hy hya => ?_)
  · obtain rfl : op = 66 := by simpa using h66
    have hfit := SFit.kid hok hsh hlen
    exact c117x ks hlim (fun t ht => ⟨(hfit t ht).1, (hfit t ht).2.1⟩) m (by omega) (fun t ht => ih t (hkd t ht) (hfit t ht)) l K hcv hag
  · have hkok := Tr.kids_ok hok k hk
    have hksh := (Tr.shaped_mk hsh).2 k hk
    have hkl := hks k hk
    have hkz := hkd k hk
    have hkm := Tr.size_mem hk
    obtain ⟨kop, knm, knu, kks⟩ := k
    obtain rfl : kop = 66 := by simpa [Tr.op] using hkb
    have hfit := SFit.kid hkok hksh hkl
    have hks2 : (Tr.mk 66 knm knu kks).size = 1 + Tr.sizes kks := by rw [Tr.size]
    exact c117x kks hkl.mk'.1 (fun t ht => ⟨(hfit t ht).1, (hfit t ht).2.1⟩) m (by omega) (fun t ht => ih t (by
     have := Tr.size_mem ht
     omega) (hfit t ht)) y yk hy hya
theorem c117 (ks : List Tr) (hlim : ks.length ≤ 1000000) (hf : ∀ t ∈ ks, SFit t) (m : Nat) (hm : m + Tr.sizes ks ≤ 1000) (l : List (ByteArray × Tr)) (K : KL) (hcv : CV m l) (hag : Agree K l) : Pf Tryz.prog 117 [.sl (ks.map Tr.d), .sl (l.map cD)] (.tup [.d (.sl ((Tr.block ks K).1.map Tr.d)), .d (.int .i64 (Tr.block ks K).2)]) :=
 c117x ks hlim (fun t ht => ⟨(hf t ht).1, (hf t ht).2.1⟩) m hm (fun t ht => c202 _ t (Nat.le_refl _) (hf t ht)) l K hcv hag
end
end Go.Proofs.YtklkbfpjimeaoaaGreat
