import Derived.Test.YtklkbfpjimeaoaaGreatM28
/- Contracts of functions. Conditions: none. -/
set_option linter.unusedSimpArgs false
set_option linter.unusedVariables false
set_option maxRecDepth 20000
namespace Go.Proofs.YtklkbfpjimeaoaaGreat
open Go Go.Proofs.YtklkbfpjimeaoaaGreat.E
section
def argsI (n : Nm) (ks : List Tr) (xs : List D) (z : Nat) : Prop := ∃ done : List ByteArray, xs = done.map .str ∧ done.length = z ∧ z ≤ ks.length ∧ (∀ e, argsT n (ks.drop z) = .error e → argsT n ks = .error e) ∧ (∀ l, argsT n (ks.drop z) = .ok l → argsT n ks = .ok (done ++ l))
variable {n : Nm} {ks : List Tr} {z : Nat} {k : Tr}
theorem argsI_ty {xs : List D} (h : argsI n ks xs z) (hk : ks[z]? = some k) (ho : k.op = 30) : argsT n ks = .error 153 := by
 obtain ⟨done, _, _, _, h4, _⟩ := h
 obtain ⟨hz, hk'⟩ := List.getElem?_eq_some_iff.1 hk
 refine h4 153 ?_
 rw [List.drop_eq_getElem_cons hz, hk', argsT, if_pos ho]
theorem argsI_err {xs : List D} {e : Int} (h : argsI n ks xs z) (hk : ks[z]? = some k) (ho : k.op ≠ 30) (ht : typeT n k false = .error e) : argsT n ks = .error e := by
 obtain ⟨done, _, _, _, h4, _⟩ := h
 obtain ⟨hz, hk'⟩ := List.getElem?_eq_some_iff.1 hk
 refine h4 e ?_
 rw [List.drop_eq_getElem_cons hz, hk', argsT, if_neg ho, ht]
 rfl
theorem argsI_ok {xs : List D} {t : ByteArray} (h : argsI n ks xs z) (hk : ks[z]? = some k) (ho : k.op ≠ 30) (ht : typeT n k false = .ok t) : argsI n ks (xs ++ [.str t]) (z + 1) := by
 obtain ⟨done, h1, h2, h3, h4, h5⟩ := h
 obtain ⟨hz, hk'⟩ := List.getElem?_eq_some_iff.1 hk
 have hd : argsT n (ks.drop z) = (argsT n (ks.drop (z + 1))).bind fun l => .ok (t :: l) := by
  rw [List.drop_eq_getElem_cons hz, hk', argsT, if_neg ho, ht]
  rfl
 refine ⟨done ++ [t], by rw [h1]; simp, by simp [h2], hz, fun e he => h4 e (by rw [hd, he]; rfl), fun l hl => ?_⟩
 have := h5 (t :: l) (by rw [hd, hl]; rfl)
 rw [this]; simp
theorem argsI_end {xs : List D} (h : argsI n ks xs z) (hz : ks.length ≤ z) : ∃ done : List ByteArray, xs = done.map .str ∧ done.length = ks.length ∧ argsT n ks = .ok done := by
 obtain ⟨done, h1, h2, h3, _, h5⟩ := h
 refine ⟨done, h1, by omega, ?_⟩
 have := h5 [] (by rw [List.drop_eq_nil_of_le hz]; rfl)
 rw [this, List.append_nil]
theorem q119 {b : Bool} (e : Int) (h : b = true) : Pf Tryz.prog 119 [.bool b, .int .i64 e] (.tup []) := by subst h; exact (c119t e).inl
theorem x119 {b : Bool} (e : Int) (h : b = false) : Px Tryz.prog 119 [.bool b, .int .i64 e] (.inr (wrongW e)) := by subst h; exact c119f e
theorem zipA {l : List ByteArray} {fs : List Fm} (h : ∀ (j : Nat) t f, l[j]? = some t → fs[j]? = some f → t = f.ty.nm) : ((l.zip fs).all fun x => decide (x.1 = x.2.ty.nm)) = true := by
 rw [List.all_eq_true]
 intro x hx
 obtain ⟨j, hj⟩ := List.mem_iff_getElem?.1 hx
 rw [List.getElem?_zip_eq_some] at hj
 exact decide_eq_true (h j x.1 x.2 hj.1 hj.2)
theorem zipN {l : List ByteArray} {fs : List Fm} {j : Nat} {t : ByteArray} {f : Fm} (h1 : l[j]? = some t) (h2 : fs[j]? = some f) (h : t ≠ f.ty.nm) : ¬ ((l.zip fs).all fun x => decide (x.1 = x.2.ty.nm)) = true := fun ha => by
 have hm : (t, f) ∈ l.zip fs := List.mem_iff_getElem?.2 ⟨j, by rw [List.getElem?_zip_eq_some]; exact ⟨h1, h2⟩⟩
 exact h (oR (List.all_eq_true.1 ha _ hm))
set_option maxHeartbeats 4000000 in
theorem c145 (n : Nm) (hn : n.Ok) (op : Int) (nm : ByteArray) (num : Int) (ks : List Tr) (b : Bool) (hl : ks.length ≤ 1000000)
 (hk : ∀ k ∈ ks, k.op ≠ 30 → Px Tryz.prog 80 [n.d, k.d, .bool false] (outT (typeT n k false))) :
 Px Tryz.prog 145 [n.d, .agg [.int .i64 op, .str nm, .int .i64 num, .sl (ks.map Tr.d)], .bool b] (outT ((argsT n ks).bind (callT n.p nm b))) := by
 refine pxB Tryz.func145 Tryz.ntmps145 Tryz.results145 (fun S0 O0 w0 m0 hm0 => ?_)
 repeat' first | refine st (by exact rfl) ?_ | fail
 refine gLo (fun y : List D × Nat => ⟨[(2, .d (.bool b)), (3, .ref 0 0), (4, .ref 1 0), (7, lstD y.1), (15, .d (.sl (ks.map Tr.d))), (16, .d (.int .i64 ((ks.map Tr.d).length : Int))), (17, .d (.int .i64 (y.2 : Int)))], [[.d (.sl (n.p.globals.map Tr.d)), .d (.sl (n.p.procs.map Pc.d)), .d (.map (gvs n.g)), .d (locD n.ls)], [.d (.int .i64 op), .d (.str nm), .d (.int .i64 num), .d (.sl (ks.map Tr.d))]]⟩) (fun y => ks.length - y.2) (fun y => argsI n ks y.1 y.2) ([], 0) ⟨[], rfl, rfl, Nat.zero_le _, fun e he => he, fun l hl => hl⟩ le_of (fun y hy Q' hn' he hr hp => ?_)
 obtain ⟨xs, z⟩ := y
 dsimp only at hy
 have hlen : (ks.map Tr.d).length = ks.length := List.length_map ..
 rcases xs with _ | ⟨x0, r0⟩
 all_goals dsimp only [lstD]
 all_goals repeat' first | refine st (by exact rfl) ?_ | fail
 all_goals refine cd (by exact rfl) (fun hb => ?_) (fun hb => ?_)
 · have hz : z < ks.length := by have := oR hb; omega
   obtain ⟨k, hkz⟩ : ∃ k, ks[z]? = some k := ⟨ks[z], gE hz⟩
   have q := hk k (mG hkz)
   have hxd := Tr.ds_get hkz
   have ho : ∀ kop knm knu kks, k.d = .agg [.int .i64 kop, .str knm, .int .i64 knu, .sl (List.map Tr.d kks)] → k.op = kop := fun kop knm knu kks h => by
    obtain ⟨a, b, c, d⟩ := k
    rw [Tr.d_mk] at h
    injection h with h; injection h with h _; injection h with _ h
   obtain ⟨kop, knm, knu, kks, hka⟩ := k.d_agg
   have ho := ho _ _ _ _ hka
   rw [hka] at q hxd
   repeat' first | refine st (by exact rfl) ?_ | fail
   refine el (by exact rfl) hxd ?_ (by omega)
   repeat' first | refine st (by exact rfl) ?_ | fail
   by_cases h30 : kop = 30
   · refine clp (u := wrongW 153) (by exact rfl) (x119 153 (by subst h30; rfl)) ?_
     repeat' first | refine st (by exact rfl) ?_ | fail
     refine Z98 ?_
     repeat' first | refine st (by exact rfl) ?_ | fail
     exact gPan (by rw [argsI_ty hy hkz (ho.trans h30)]; rfl)
   · refine cl (r := .tup []) (by exact rfl) (q119 153 (by simp [h30])) ?_
     repeat' first | refine st (by exact rfl) ?_ | fail
     have h30' : k.op ≠ 30 := by rw [ho]; exact h30
     replace q := q h30'
     cases ht : typeT n k false with
     | error e =>
      rw [ht] at q
      refine Z93 ?_
      repeat' first | refine st (by exact rfl) ?_ | fail
      refine Z98 ?_
      repeat' first | refine st (by exact rfl) ?_ | fail
      exact gPan (by rw [argsI_err hy hkz h30' ht]; rfl)
     | ok t =>
      rw [ht] at q
      refine Z89 ?_
      repeat' first | refine st (by exact rfl) ?_ | refine bs (by exact rfl) ?_ | refine ap (by exact rfl) ?_ | fail
      rw [wrap_succ (by omega)]
      exact Y15
 · obtain ⟨done, hx, hdl, hkd⟩ := argsI_end hy (by have := of_decide_eq_false hb; omega)
   repeat' first | refine st (by exact rfl) ?_ | fail
   refine Z68 ?_
   repeat' first | refine st (by exact rfl) ?_ | fail
   refine cl (by exact rfl) (c50 n.p nm hn.p.pl) ?_
   repeat' first | refine st (by exact rfl) ?_ | fail
   cases hf : n.p.procs.findIdx? (fun q => decide (q.nm = nm)) with
   | none =>
    refine clp (u := wrongW 9) (by exact rfl) (x119 9 (by simp [idxL, hf])) ?_
    repeat' first | refine st (by exact rfl) ?_ | fail
    exact gPan (by rw [hkd]; simp only [Except.bind, callT, hf, outT])
   | some i =>
    obtain ⟨hi, _⟩ := List.findIdx?_eq_some_iff_getElem.1 hf
    obtain ⟨p, hpi⟩ : ∃ q, n.p.procs[i]? = some q := ⟨_, gE hi⟩
    have hci : idxL (fun q : Pc => decide (q.nm = nm)) n.p.procs = (i : Int) := by simp [idxL, hf]
    have hpd : (n.p.procs.map Pc.d)[(idxL (fun q : Pc => decide (q.nm = nm)) n.p.procs).toNat]? = some (.agg [.str p.nm, .bool p.iter, .bool p.priv, .sl (p.formals.map Fm.d), .int .i64 p.result.op, .str p.result.nm, .int .i64 p.result.nu, .sl (p.result.kids.map Tr.d), .sl (p.wh.map Tr.d), .sl (p.body.map Tr.d)]) := by
     rw [hci, Int.toNat_natCast, List.getElem?_map, hpi]; rfl
    have hpok := hn.p.p p (mG hpi)
    have hcq : callT n.p nm b done = callQ p b done := by simp only [callT, hf, hpi]
    refine cl (r := .tup []) (by exact rfl) (q119 9 (by rw [hci]; simp)) ?_
    repeat' first | refine st (by exact rfl) ?_ | fail
    refine el (by exact rfl) hpd ?_ (by rw [hci]; exact Int.natCast_nonneg i)
    repeat' first | refine st (by exact rfl) ?_ | fail
    refine cl (by exact rfl) (c70 p.formals 209 [] [] staticB hpok.fl (fun f _ => c209 f)) ?_
    repeat' first | refine st (by exact rfl) ?_ | fail
    by_cases hst : p.formals.any staticB = true
    · refine clp (u := wrongW 153) (by exact rfl) (x119 153 (by simp [hst])) ?_
      repeat' first | refine st (by exact rfl) ?_ | fail
      exact gPan (by rw [hkd]; simp only [Except.bind]; rw [hcq, callQ, if_pos hst]; rfl)
    refine cl (r := .tup []) (by exact rfl) (q119 153 (by simpa using hst)) ?_
    repeat' first | refine st (by exact rfl) ?_ | fail
    by_cases hit : (b || !p.iter) = false
    · refine clp (u := wrongW 151) (by exact rfl) (x119 151 hit) ?_
      repeat' first | refine st (by exact rfl) ?_ | fail
      exact Y16
    refine cl (r := .tup []) (by exact rfl) (q119 151 (by simpa only [Bool.not_eq_false] using hit)) ?_
    repeat' first | refine st (by exact rfl) ?_ | fail
    have hxl := congrArg List.length hx
    simp only [List.length_nil, List.length_cons, List.length_map] at hxl
    by_cases hle : done.length = p.formals.length
    case neg =>
     refine clp (u := wrongW 5) (by exact rfl) (x119 5 (by rw [beq_eq_false_iff_ne]; simp only [List.length_cons, List.length_map]; omega)) ?_
     repeat' first | refine st (by exact rfl) ?_ | fail
     exact Y12
    refine cl (r := .tup []) (by exact rfl) (q119 5 (by rw [beq_iff_eq]; simp only [List.length_cons, List.length_map]; omega)) ?_
    have hd0 : done = [] := List.length_eq_zero_iff.1 hxl.symm
    repeat' first | refine st (by exact rfl) ?_ | refine cf (by exact rfl) ?_ rfl | refine gRn 1 ?_ | fail
    exact enx (by exact rfl) (by rw [hkd]; simp only [Except.bind]; rw [hcq, callQ, if_neg hst, if_neg hit, if_neg (fun h => h hle), if_pos (by rw [hd0]; rfl)]; rfl)
 · have hz : z < ks.length := by have := oR hb; omega
   obtain ⟨k, hkz⟩ : ∃ k, ks[z]? = some k := ⟨ks[z], gE hz⟩
   have q := hk k (mG hkz)
   have hxd := Tr.ds_get hkz
   have ho : ∀ kop knm knu kks, k.d = .agg [.int .i64 kop, .str knm, .int .i64 knu, .sl (List.map Tr.d kks)] → k.op = kop := fun kop knm knu kks h => by
    obtain ⟨a, b, c, d⟩ := k
    rw [Tr.d_mk] at h
    injection h with h; injection h with h _; injection h with _ h
   obtain ⟨kop, knm, knu, kks, hka⟩ := k.d_agg
   have ho := ho _ _ _ _ hka
   rw [hka] at q hxd
   have hlx : r0.length + 1 ≤ 1000000 := by
    obtain ⟨done, h5, h6, h7, _⟩ := hy
    have h8 := congrArg List.length h5
    simp only [List.length_cons, List.length_map] at h8
    omega
   repeat' first | refine st (by exact rfl) ?_ | fail
   refine el (by exact rfl) hxd ?_ (by omega)
   repeat' first | refine st (by exact rfl) ?_ | fail
   by_cases h30 : kop = 30
   · refine clp (u := wrongW 153) (by exact rfl) (x119 153 (by subst h30; rfl)) ?_
     repeat' first | refine st (by exact rfl) ?_ | fail
     refine Z98 ?_
     repeat' first | refine st (by exact rfl) ?_ | fail
     exact gPan (by rw [argsI_ty hy hkz (ho.trans h30)]; rfl)
   · refine cl (r := .tup []) (by exact rfl) (q119 153 (by simp [h30])) ?_
     repeat' first | refine st (by exact rfl) ?_ | fail
     have h30' : k.op ≠ 30 := by rw [ho]; exact h30
     replace q := q h30'
     cases ht : typeT n k false with
     | error e =>
      rw [ht] at q
      refine Z93 ?_
      repeat' first | refine st (by exact rfl) ?_ | fail
      refine Z98 ?_
      repeat' first | refine st (by exact rfl) ?_ | fail
      exact gPan (by rw [argsI_err hy hkz h30' ht]; rfl)
     | ok t =>
      rw [ht] at q
      refine Z89 ?_
      repeat' first | refine st (by exact rfl) ?_ | refine bs (by exact rfl) ?_ | refine ap (by exact rfl) ?_ | fail
      rw [wrap_succ (by omega)]
      exact Y15
 · obtain ⟨done, hx, hdl, hkd⟩ := argsI_end hy (by have := of_decide_eq_false hb; omega)
   repeat' first | refine st (by exact rfl) ?_ | fail
   refine Z68 ?_
   repeat' first | refine st (by exact rfl) ?_ | fail
   refine cl (by exact rfl) (c50 n.p nm hn.p.pl) ?_
   repeat' first | refine st (by exact rfl) ?_ | fail
   cases hf : n.p.procs.findIdx? (fun q => decide (q.nm = nm)) with
   | none =>
    refine clp (u := wrongW 9) (by exact rfl) (x119 9 (by simp [idxL, hf])) ?_
    repeat' first | refine st (by exact rfl) ?_ | fail
    exact gPan (by rw [hkd]; simp only [Except.bind, callT, hf, outT])
   | some i =>
    obtain ⟨hi, _⟩ := List.findIdx?_eq_some_iff_getElem.1 hf
    obtain ⟨p, hpi⟩ : ∃ q, n.p.procs[i]? = some q := ⟨_, gE hi⟩
    have hci : idxL (fun q : Pc => decide (q.nm = nm)) n.p.procs = (i : Int) := by simp [idxL, hf]
    have hpd : (n.p.procs.map Pc.d)[(idxL (fun q : Pc => decide (q.nm = nm)) n.p.procs).toNat]? = some (.agg [.str p.nm, .bool p.iter, .bool p.priv, .sl (p.formals.map Fm.d), .int .i64 p.result.op, .str p.result.nm, .int .i64 p.result.nu, .sl (p.result.kids.map Tr.d), .sl (p.wh.map Tr.d), .sl (p.body.map Tr.d)]) := by
     rw [hci, Int.toNat_natCast, List.getElem?_map, hpi]; rfl
    have hpok := hn.p.p p (mG hpi)
    have hcq : callT n.p nm b done = callQ p b done := by simp only [callT, hf, hpi]
    refine cl (r := .tup []) (by exact rfl) (q119 9 (by rw [hci]; simp)) ?_
    repeat' first | refine st (by exact rfl) ?_ | fail
    refine el (by exact rfl) hpd ?_ (by rw [hci]; exact Int.natCast_nonneg i)
    repeat' first | refine st (by exact rfl) ?_ | fail
    refine cl (by exact rfl) (c70 p.formals 209 [] [] staticB hpok.fl (fun f _ => c209 f)) ?_
    repeat' first | refine st (by exact rfl) ?_ | fail
    by_cases hst : p.formals.any staticB = true
    · refine clp (u := wrongW 153) (by exact rfl) (x119 153 (by simp [hst])) ?_
      repeat' first | refine st (by exact rfl) ?_ | fail
      exact gPan (by rw [hkd]; simp only [Except.bind]; rw [hcq, callQ, if_pos hst]; rfl)
    refine cl (r := .tup []) (by exact rfl) (q119 153 (by simpa using hst)) ?_
    repeat' first | refine st (by exact rfl) ?_ | fail
    by_cases hit : (b || !p.iter) = false
    · refine clp (u := wrongW 151) (by exact rfl) (x119 151 hit) ?_
      repeat' first | refine st (by exact rfl) ?_ | fail
      exact Y16
    refine cl (r := .tup []) (by exact rfl) (q119 151 (by simpa only [Bool.not_eq_false] using hit)) ?_
    repeat' first | refine st (by exact rfl) ?_ | fail
    have hxl := congrArg List.length hx
    simp only [List.length_nil, List.length_cons, List.length_map] at hxl
    by_cases hle : done.length = p.formals.length
    case neg =>
     refine clp (u := wrongW 5) (by exact rfl) (x119 5 (by rw [beq_eq_false_iff_ne]; simp only [List.length_cons, List.length_map]; omega)) ?_
     repeat' first | refine st (by exact rfl) ?_ | fail
     exact Y12
    refine cl (r := .tup []) (by exact rfl) (q119 5 (by rw [beq_iff_eq]; simp only [List.length_cons, List.length_map]; omega)) ?_
    repeat' first | refine st (by exact rfl) ?_ | fail
    refine gLo (fun z : Nat => ⟨[(11, .ref 2 0), (65, .d (.sl (x0 :: r0))), (66, .d (.int .i64 ((x0 :: r0).length : Int))), (67, .d (.int .i64 (z : Int)))], [[.d (.sl (n.p.globals.map Tr.d)), .d (.sl (n.p.procs.map Pc.d)), .d (.map (gvs n.g)), .d (locD n.ls)], [.d (.int .i64 op), .d (.str nm), .d (.int .i64 num), .d (.sl (ks.map Tr.d))], [.d (.str p.nm), .d (.bool p.iter), .d (.bool p.priv), .d (.sl (p.formals.map Fm.d)), .d (.int .i64 p.result.op), .d (.str p.result.nm), .d (.int .i64 p.result.nu), .d (.sl (p.result.kids.map Tr.d)), .d (.sl (p.wh.map Tr.d)), .d (.sl (p.body.map Tr.d))]]⟩) (fun z => done.length - z) (fun z => z ≤ done.length ∧ ∀ (j : Nat) (t : ByteArray) (f : Fm), j < z → done[j]? = some t → p.formals[j]? = some f → t = f.ty.nm) 0 ⟨Nat.zero_le _, fun j _ _ h => absurd h (Nat.not_lt_zero _)⟩ le_of (fun z hz2 Q2 hn2 he2 hr2 hp2 => ?_)
    obtain ⟨hz2, hzp⟩ := hz2
    repeat' first | refine st (by exact rfl) ?_ | fail
    refine cd (by exact rfl) (fun hb2 => ?_) (fun hb2 => ?_)
    · have hzl : z < done.length := by have := oR hb2; simp only [List.length_cons] at this; omega
      obtain ⟨t, htz⟩ : ∃ t, done[z]? = some t := ⟨_, gE hzl⟩
      obtain ⟨f, hfz⟩ : ∃ f, p.formals[z]? = some f := ⟨_, gE (by omega)⟩
      have hxt : (x0 :: r0)[z]? = some (.str t) := by rw [hx, List.getElem?_map, htz]; rfl
      have hfd := fm_get hfz
      repeat' first | refine st (by exact rfl) ?_ | fail
      refine el (by exact rfl) hxt ?_ (by omega)
      repeat' first | refine st (by exact rfl) ?_ | fail
      refine el (by exact rfl) hfd ?_ (by omega)
      repeat' first | refine st (by exact rfl) ?_ | fail
      by_cases htf : t = f.ty.nm
      · refine cl (r := .tup []) (by exact rfl) (q119 13 (by simp [htf])) ?_
        repeat' first | refine st (by exact rfl) ?_ | fail
        rw [wrap_succ (by omega)]
        refine toL (hn2 _ (z + 1) ⟨hzl, fun j t' f' hj h1 h2 => ?_⟩ (by omega) le_of)
        by_cases hjz : j = z
        · subst hjz
          rw [htz] at h1; rw [hfz] at h2
          injection h1 with h1; injection h2 with h2
          subst h1; subst h2
          exact htf
        · exact hzp j t' f' (by omega) h1 h2
      · refine clp (u := wrongW 13) (by exact rfl) (x119 13 (by simp [htf])) ?_
        repeat' first | refine st (by exact rfl) ?_ | fail
        refine toL (hp2 _ _ ?_)
        repeat' first | refine st (by exact rfl) ?_ | fail
        exact gPan (by rw [hkd]; simp only [Except.bind]; rw [hcq, callQ, if_neg hst, if_neg hit, if_neg (fun h => h hle), if_neg (zipN htz hfz htf)]; rfl)
    · have hzl : done.length ≤ z := by have := of_decide_eq_false hb2; simp only [List.length_cons] at this; omega
      repeat' first | refine st (by exact rfl) ?_ | fail
      refine toL (he2 _ _ ?_)
      repeat' first | refine st (by exact rfl) ?_ | fail
      exact enx (by exact rfl) (by rw [hkd]; simp only [Except.bind]; rw [hcq, callQ, if_neg hst, if_neg hit, if_neg (fun h => h hle), if_pos (zipA fun j t f h1 h2 => hzp j t f (by have := (lG h1); omega) h1 h2)]; rfl)
end
section
theorem whenS_size {b : Bool} {t : ByteArray} {m : Nat} (h : t.size ≤ m) : (whenS b t).size ≤ m := by
 unfold whenS
 split
 · exact h
 · exact Nat.zero_le _
theorem ruleT_size {m : Nat} (t : ByteArray) : ∀ {l : List (ByteArray × ByteArray)}, (∀ x ∈ l, x.2.size ≤ m) → (ruleT l t).size ≤ m
 | [], _ => Nat.zero_le _
 | (k, v) :: r, h => by
  rw [ruleT]
  split
  · exact h (k, v) (by simp)
  · exact ruleT_size t fun x hx => h x (by simp [hx])
theorem ruU_size (nm : ByteArray) : ∀ x ∈ ruU nm, x.2.size ≤ 1000000 := by
 unfold ruU
 intro x hx
 split at hx <;> simp only [List.mem_cons, List.not_mem_nil, or_false] at hx <;> subst hx <;> decide
theorem ruB_size (nm : ByteArray) : ∀ x ∈ ruB nm, x.2.size ≤ 1000000 := by
 unfold ruB
 intro x hx
 repeat' split at hx
 all_goals simp only [List.mem_cons, List.not_mem_nil, or_false] at hx
 all_goals (rcases hx with rfl | rfl <;> decide) <;> (subst hx; decide)
theorem fieldT_size (nm t : ByteArray) : (fieldT nm t).size ≤ 1000000 := by
 unfold fieldT
 split
 · decide
 · split
   · rename_i h
     rw [Bool.and_eq_true] at h
     have := isArrB_size h.2
     rw [ByteArray.size_append, ByteArray.size_extract, this]
     decide
   · split <;> decide
theorem opGet_size (nm : ByteArray) : (opGet nm).2.1.size ≤ 1000000 := by
 have hall : (opTab.all fun x => decide (x.2.2.1.size ≤ 1000000)) = true := by decide
 unfold opGet
 split
 · rename_i x hx
   exact oR (List.all_eq_true.1 hall x (List.mem_of_find?_eq_some hx))
 · decide
theorem ite_size {c : Prop} [Decidable c] {a b : ByteArray} {m : Nat} (ha : a.size ≤ m) (hb : b.size ≤ m) : (if c then a else b).size ≤ m := by
 split
 · exact ha
 · exact hb
theorem opT_size (op : Int) (nm : ByteArray) (l : List ByteArray) (h : ∀ t ∈ l, t.size ≤ 1000000) : (opT op nm l).size ≤ 1000000 := by
 unfold opT
 cases l with
 | nil => exact Nat.zero_le _
 | cons a r =>
  have ha := h a (by simp)
  rcases r with _ | ⟨b, r⟩
  · dsimp only
    repeat' with_reducible refine ite_size ?_ ?_
    all_goals first | exact ruleT_size _ (ruU_size nm) | exact fieldT_size _ _ | exact whenS_size ha | exact whenS_size (opGet_size nm) | exact whenS_size (by decide) | exact Nat.zero_le _ | fail
  · have hb := h b (by simp)
    rcases r with _ | ⟨c, r⟩ <;> dsimp only <;> (repeat' with_reducible refine ite_size ?_ ?_)
    all_goals first | exact ruleT_size _ (ruU_size nm) | exact ruleT_size _ (ruB_size nm) | exact fieldT_size _ _ | exact whenS_size ha | exact whenS_size hb | exact whenS_size (opGet_size nm) | exact whenS_size (by decide) | exact Nat.zero_le _ | fail
theorem kidsE {ks : List Tr} {s : ByteArray} (h : kidsB ks s = true) (hs : ∀ i, i < s.size → ((s[i]!).toNat : Int) = 101) : ∀ k ∈ ks, isExprB k.op = true := by
 intro k hk
 have hl := kidsB_len h
 unfold kidsB at h
 rw [Bool.and_eq_true] at h
 obtain ⟨i, hi⟩ := List.getElem?_of_mem hk
 have hlt := (lG hi)
 have hm : (k, i) ∈ ks.zipIdx := by
  rw [List.mem_iff_getElem?]
  exact ⟨i, by rw [List.getElem?_zipIdx, hi]; simp⟩
 have h2 := List.all_eq_true.1 h.2 (k, i) hm
 dsimp only at h2
 rw [kindOk, if_pos (hs i (by omega))] at h2
 exact h2
end
section
theorem c80l1 (n : Nm) (nm : ByteArray) (num : Int) (ks : List Tr) (b : Bool) : Px Tryz.prog 80 [n.d, .agg [.int .i64 1, .str nm, .int .i64 num, .sl (ks.map Tr.d)], .bool b] (.inl (.d (.str sInt))) := by
 refine pxB Tryz.func80 Tryz.ntmps80 Tryz.results80 (fun S0 O0 w0 m0 hm0 => ?_)
 repeat' first | refine st (by exact rfl) ?_ | refine ct (by exact rfl) ?_ rfl | refine cf (by exact rfl) ?_ rfl | fail
 exact Y7
theorem c80l16 (n : Nm) (nm : ByteArray) (num : Int) (ks : List Tr) (b : Bool) : Px Tryz.prog 80 [n.d, .agg [.int .i64 16, .str nm, .int .i64 num, .sl (ks.map Tr.d)], .bool b] (.inl (.d (.str sInt))) := by
 refine pxB Tryz.func80 Tryz.ntmps80 Tryz.results80 (fun S0 O0 w0 m0 hm0 => ?_)
 repeat' first | refine st (by exact rfl) ?_ | refine ct (by exact rfl) ?_ rfl | refine cf (by exact rfl) ?_ rfl | fail
 exact Y7
theorem c80l17 (n : Nm) (nm : ByteArray) (num : Int) (ks : List Tr) (b : Bool) : Px Tryz.prog 80 [n.d, .agg [.int .i64 17, .str nm, .int .i64 num, .sl (ks.map Tr.d)], .bool b] (.inl (.d (.str sInt))) := by
 refine pxB Tryz.func80 Tryz.ntmps80 Tryz.results80 (fun S0 O0 w0 m0 hm0 => ?_)
 repeat' first | refine st (by exact rfl) ?_ | refine ct (by exact rfl) ?_ rfl | refine cf (by exact rfl) ?_ rfl | fail
 exact Y7
theorem c80l2 (n : Nm) (nm : ByteArray) (num : Int) (ks : List Tr) (b : Bool) : Px Tryz.prog 80 [n.d, .agg [.int .i64 2, .str nm, .int .i64 num, .sl (ks.map Tr.d)], .bool b] (.inl (.d (.str sBool))) := by
 refine pxB Tryz.func80 Tryz.ntmps80 Tryz.results80 (fun S0 O0 w0 m0 hm0 => ?_)
 repeat' first | refine st (by exact rfl) ?_ | refine ct (by exact rfl) ?_ rfl | refine cf (by exact rfl) ?_ rfl | fail
 exact Y7
theorem c80name (n : Nm) (hn : n.Ok) (nm : ByteArray) (hs : nm.size ≤ 140737488355328) (num : Int) (ks : List Tr) (b : Bool) : Px Tryz.prog 80 [n.d, .agg [.int .i64 4, .str nm, .int .i64 num, .sl (ks.map Tr.d)], .bool b] (outT (lookE (lookN n nm))) := by
 have q := c144 n hn nm hs
 cases hf : lookN n nm with
 | some x =>
  rw [hf] at q
  refine pxB Tryz.func80 Tryz.ntmps80 Tryz.results80 (fun S0 O0 w0 m0 hm0 => ?_)
  repeat' first | refine st (by exact rfl) ?_ | refine ct (by exact rfl) ?_ rfl | refine cf (by exact rfl) ?_ rfl | fail
  refine Z89 ?_
  dsimp only [Gv.d]
  repeat' first | refine st (by exact rfl) ?_ | refine ct (by exact rfl) ?_ rfl | refine cf (by exact rfl) ?_ rfl | fail
  exact Y7
 | none =>
  rw [hf] at q
  refine pxB Tryz.func80 Tryz.ntmps80 Tryz.results80 (fun S0 O0 w0 m0 hm0 => ?_)
  repeat' first | refine st (by exact rfl) ?_ | refine ct (by exact rfl) ?_ rfl | refine cf (by exact rfl) ?_ rfl | fail
  refine Z93 ?_
  repeat' first | refine st (by exact rfl) ?_ | refine ct (by exact rfl) ?_ rfl | refine cf (by exact rfl) ?_ rfl | fail
  exact gPan rfl
theorem c80call (n : Nm) (hn : n.Ok) (nm : ByteArray) (num : Int) (ks : List Tr) (b : Bool) (hl : ks.length ≤ 1000000)
 (hk : ∀ k ∈ ks, k.op ≠ 30 → Px Tryz.prog 80 [n.d, k.d, .bool false] (outT (typeT n k false))) : Px Tryz.prog 80 [n.d, .agg [.int .i64 13, .str nm, .int .i64 num, .sl (ks.map Tr.d)], .bool b] (outT ((argsT n ks).bind (callT n.p nm b))) := by
 have q := c145 n hn 13 nm num ks b hl hk
 cases hf : (argsT n ks).bind (callT n.p nm b) with
 | ok s =>
  rw [hf] at q
  refine pxB Tryz.func80 Tryz.ntmps80 Tryz.results80 (fun S0 O0 w0 m0 hm0 => ?_)
  repeat' first | refine st (by exact rfl) ?_ | refine ct (by exact rfl) ?_ rfl | refine cf (by exact rfl) ?_ rfl | fail
  refine Z89 ?_
  repeat' first | refine st (by exact rfl) ?_ | refine ct (by exact rfl) ?_ rfl | refine cf (by exact rfl) ?_ rfl | fail
  exact Y7
 | error e =>
  rw [hf] at q
  refine pxB Tryz.func80 Tryz.ntmps80 Tryz.results80 (fun S0 O0 w0 m0 hm0 => ?_)
  repeat' first | refine st (by exact rfl) ?_ | refine ct (by exact rfl) ?_ rfl | refine cf (by exact rfl) ?_ rfl | fail
  refine Z93 ?_
  repeat' first | refine st (by exact rfl) ?_ | refine ct (by exact rfl) ?_ rfl | refine cf (by exact rfl) ?_ rfl | fail
  exact gPan rfl
end
section
theorem methR_le (nm : ByteArray) : (methR nm).1 ≤ 2 := by
 have hall : (opTab.all fun x => decide (x.2.2.2 ≤ 2)) = true := by decide
 unfold methR
 split
 · rename_i x hx
   exact oR (List.all_eq_true.1 hall x (List.mem_of_find?_eq_some hx))
 · decide
variable {nm : ByteArray}
theorem kids_expr {op : Int} {num : Int} {ks : List Tr} (he : isExprB op = true) (hn : op ≠ 1 ∧ op ≠ 2 ∧ op ≠ 4 ∧ op ≠ 13 ∧ op ≠ 16 ∧ op ≠ 17) (hr : rightB (.mk op nm num ks) = true) : ∀ k ∈ ks, isExprB k.op = true := by
 have ho : op = 5 ∨ op = 6 ∨ op = 7 ∨ op = 8 ∨ op = 9 ∨ op = 10 ∨ op = 11 ∨ op = 12 ∨ op = 14 ∨ op = 15 ∨ op = 18 ∨ op = 19 := by
  unfold isExprB at he
  simp only [Bool.and_eq_true, decide_eq_true_eq, bne_iff_ne, ne_eq] at he
  omega
 have e1 : ∀ i, i < (⟨#[101]⟩ : ByteArray).size → (((⟨#[101]⟩ : ByteArray)[i]!).toNat : Int) = 101 := by decide
 have e2 : ∀ i, i < (⟨#[101, 101]⟩ : ByteArray).size → (((⟨#[101, 101]⟩ : ByteArray)[i]!).toNat : Int) = 101 := by decide
 have e3 : ∀ i, i < (⟨#[101, 101, 101]⟩ : ByteArray).size → (((⟨#[101, 101, 101]⟩ : ByteArray)[i]!).toNat : Int) = 101 := by decide
 rcases ho with rfl | rfl | rfl | rfl | rfl | rfl | rfl | rfl | rfl | rfl | rfl | rfl
 · rw [right5, Bool.and_eq_true] at hr; exact kidsE hr.2 e1
 · rw [right6, Bool.and_eq_true] at hr; exact kidsE hr.2 e2
 · rw [right7, Bool.and_eq_true] at hr; exact kidsE hr.2 e2
 · rw [right8, Bool.and_eq_true] at hr; exact kidsE hr.2 e2
 · rw [right9, Bool.and_eq_true] at hr; exact kidsE hr.2 e2
 · rw [right10, Bool.and_eq_true, Bool.or_eq_true] at hr
   rcases hr.2 with h | h
   · exact kidsE h e1
   · exact kidsE h e2
 · rw [right11] at hr
   split at hr
   · rw [Bool.and_eq_true] at hr; exact kidsE hr.2 e2
   · rw [Bool.and_eq_true] at hr; exact kidsE hr.2 e1
 · rw [right12, Bool.and_eq_true, Bool.or_eq_true] at hr
   rcases hr.2 with h | h
   · exact kidsE h e2
   · exact kidsE h e3
 · rw [right14, Bool.and_eq_true] at hr; exact kidsE hr.2 e1
 · rw [right15] at hr
   simp only [Bool.and_eq_true, decide_eq_true_eq] at hr
   obtain ⟨⟨h0, _⟩, hk⟩ := hr
   have h2 := methR_le nm
   have hm : ((methR nm).1 + 1).toNat = 1 ∨ ((methR nm).1 + 1).toNat = 2 ∨ ((methR nm).1 + 1).toNat = 3 := by omega
   rcases hm with h | h | h
   · rw [h] at hk; exact kidsE hk (by decide)
   · rw [h] at hk; exact kidsE hk (by decide)
   · rw [h] at hk; exact kidsE hk (by decide)
 · rw [right18, Bool.and_eq_true] at hr; exact kidsE hr.2 e1
 · rw [right19, Bool.and_eq_true] at hr; exact kidsE hr.2 e3
structure Nm.Bd (n : Nm) : Prop where
 ls : ∀ x ∈ n.ls, x.ty.size ≤ 1000000
 g : ∀ x ∈ n.g, x.ty.size ≤ 1000000
 p : ∀ q ∈ n.p.procs, q.result.nm.size ≤ 1000000
mutual
/-- Whether an expression uses a name. -/
def Tr.emp : Tr → ByteArray → Bool
 | .mk op nm _ ks, s => (op == 4 && decide (nm = s)) || Tr.empL ks s
def Tr.empL : List Tr → ByteArray → Bool
 | [], _ => false
 | k :: r, s => k.emp s || Tr.empL r s
end
theorem Tr.empL_of {k : Tr} {s : ByteArray} (h : k.emp s = true) : ∀ {ks : List Tr}, k ∈ ks → Tr.empL ks s = true
 | x :: r, hm => by
  rw [Tr.empL]
  rcases List.mem_cons.1 hm with rfl | hm
  · rw [h]; rfl
  · rw [Tr.empL_of h hm, Bool.or_true]
def UBd (n : Nm) (t : Tr) : Prop := (∀ s, t.emp s = true → ∀ x, lookN n s = some x → x.ty.size ≤ 1000000) ∧ ∀ q ∈ n.p.procs, q.result.nm.size ≤ 1000000
variable {n : Nm}
theorem UBd.kid {op : Int} {num : Int} {ks : List Tr} {k : Tr} (h : UBd n (.mk op nm num ks)) (hk : k ∈ ks) : UBd n k :=
 ⟨fun s hs x hx => h.1 s (by rw [Tr.emp, Tr.empL_of hs hk, Bool.or_true]) x hx, h.2⟩
theorem findL_mem : ∀ {ls : List Lc} {x : Lc} {r : List Lc}, findL nm ls = x :: r → x ∈ ls
 | [], x, r, h => by cases h
 | y :: t, x, r, h => by
  rw [findL] at h
  split at h
  · injection h with h _; subst h; simp
  · exact List.mem_cons_of_mem _ (findL_mem h)
theorem lookN_sz (hb : n.Bd) {s : ByteArray} {x : Gv} (h : lookN n s = some x) : x.ty.size ≤ 1000000 := by
 unfold lookN at h
 split at h
 · rename_i y r hf
   injection h with h
   subst h
   exact hb.ls y (findL_mem hf)
 · exact hb.g x (List.mem_of_find?_eq_some h)
theorem Nm.Bd.u (h : n.Bd) (t : Tr) : UBd n t := ⟨fun _ _ _ hx => lookN_sz h hx, h.p⟩
theorem callT_sz (hb : ∀ q ∈ n.p.procs, q.result.nm.size ≤ 1000000) {nm : ByteArray} {b : Bool} {l : List ByteArray} {s : ByteArray} (h : callT n.p nm b l = .ok s) : s.size ≤ 1000000 := by
 unfold callT at h
 split at h
 · cases h
 · split at h
   · cases h
   · rename_i q hq
     unfold callQ at h
     repeat' split at h
     all_goals first | (cases h; done) | (injection h with h; subst h; exact hb q (mG hq)) | fail
theorem kidsT_sz : ∀ {ks : List Tr} {l : List ByteArray}, (∀ k ∈ ks, ∀ s, typeT n k false = .ok s → s.size ≤ 1000000) → kidsT n ks = .ok l → ∀ t ∈ l, t.size ≤ 1000000
 | [], l, _, h, t, ht => by rw [kidsT] at h; injection h with h; subst h; cases ht
 | k :: r, l, ih, h, t, ht => by
  rw [kidsT] at h
  cases h1 : typeT n k false with
  | error e => rw [h1] at h; cases h
  | ok s =>
   cases h2 : kidsT n r with
   | error e => rw [h1, h2] at h; cases h
   | ok l' =>
    rw [h1, h2] at h
    injection h with h
    subst h
    rcases List.mem_cons.1 ht with rfl | ht
    · exact ih k (by simp) _ h1
    · exact kidsT_sz (fun k hk => ih k (by simp [hk])) h2 t ht
theorem typeT_sz : ∀ (sz : Nat) (t : Tr), t.size ≤ sz → UBd n t → ∀ b s, typeT n t b = .ok s → s.size ≤ 1000000 := by
 intro sz
 induction sz with
 | zero => intro t h; exact absurd t.size_pos (by omega)
 | succ sz ih =>
  intro t hsz hb b s h
  obtain ⟨op, nm, num, ks⟩ := t
  have hkd : ∀ k ∈ ks, k.size ≤ sz := fun k hk => by
   have := Tr.size_mem hk
   rw [Tr.size] at hsz
   omega
  rw [typeT] at h
  split at h
  · injection h with h; subst h; decide
  split at h
  · injection h with h; subst h; decide
  split at h
  · rename_i _ _ h4
    cases hf : lookN n nm with
    | none => rw [hf] at h; cases h
    | some x => rw [hf] at h; injection h with h; subst h; exact hb.1 nm (by rw [Tr.emp, h4]; simp) x hf
  split at h
  · cases ha : argsT n ks with
    | error e => rw [ha] at h; cases h
    | ok l => rw [ha] at h; exact callT_sz hb.2 h
  · cases ha : kidsT n ks with
    | error e => rw [ha] at h; cases h
    | ok l =>
     rw [ha] at h
     have hs := opT_size op nm l (kidsT_sz (fun k hk s hs => ih k (hkd k hk) (hb.kid hk) false s hs) ha)
     replace h : opE (opT op nm l) = .ok s := h
     unfold opE at h
     split at h
     · cases h
     · injection h with h; subst h; exact hs
theorem c80n (n : Nm) (hn : n.Ok) : ∀ (sz : Nat) (t : Tr), t.size ≤ sz → UBd n t → t.Ok → t.size ≤ 1000000 → t.shaped = true → isExprB t.op = true → ∀ b, Px Tryz.prog 80 [n.d, t.d, .bool b] (outT (typeT n t b)) := by
 intro sz
 induction sz with
 | zero => intro t h; exact absurd t.size_pos (by omega)
 | succ sz ih =>
  intro t hsz hb hok hM hsh he b
  obtain ⟨op, nm, num, ks⟩ := t
  have hkd : ∀ k ∈ ks, k.size ≤ sz ∧ k.size ≤ 1000000 := fun k hk => by
   have := Tr.size_mem hk
   rw [Tr.size] at hsz hM
   omega
  have hkl : ks.length ≤ 1000000 := by
   have := Tr.len_sizes ks
   rw [Tr.size] at hM
   omega
  rw [Tr.shaped, Bool.and_eq_true, Tr.shapeds_all] at hsh
  obtain ⟨hr, hks⟩ := hsh
  have hksh : ∀ k ∈ ks, k.shaped = true := fun k hk => by
   cases hq : k.shaped with
   | true => rfl
   | false =>
    have : (ks.any fun k => !k.shaped) = true := List.any_eq_true.2 ⟨k, hk, by rw [hq]; rfl⟩
    rw [this] at hks; cases hks
  cases hok with | mk o1 o2 o3 o4 o5 =>
  replace he : isExprB op = true := he
  rw [Tr.d_mk, typeT]
  by_cases h1 : op = 1 ∨ op = 16 ∨ op = 17
  · rw [if_pos h1]
    rcases h1 with rfl | rfl | rfl
    · exact c80l1 n nm num ks b
    · exact c80l16 n nm num ks b
    · exact c80l17 n nm num ks b
  rw [if_neg h1]
  by_cases h2 : op = 2
  · rw [if_pos h2]; subst h2; exact c80l2 n nm num ks b
  rw [if_neg h2]
  by_cases h4 : op = 4
  · rw [if_pos h4]; subst h4; exact c80name n hn nm o2 num ks b
  rw [if_neg h4]
  by_cases h13 : op = 13
  · rw [if_pos h13]; subst h13
    rw [right13, Bool.and_eq_true] at hr
    refine c80call n hn nm num ks b hkl fun k hk hk30 => ih k (hkd k hk).1 (hb.kid hk) (o5 k hk) (hkd k hk).2 (hksh k hk) ?_ false
    have h := hr.1
    unfold everyB at h
    cases hq : isExprB k.op with
    | true => rfl
    | false =>
     have : (ks.any fun k => !(isExprB k.op || k.op == 30)) = true := List.any_eq_true.2 ⟨k, hk, by rw [hq]; simpa using hk30⟩
     rw [this] at h; cases h
  rw [if_neg h13]
  have hne : op ≠ 1 ∧ op ≠ 2 ∧ op ≠ 4 ∧ op ≠ 13 ∧ op ≠ 16 ∧ op ≠ 17 := ⟨fun h => h1 (.inl h), h2, h4, h13, fun h => h1 (.inr (.inl h)), fun h => h1 (.inr (.inr h))⟩
  refine c80o n op nm num ks b (beq_eq_false_iff_ne.2 hne.1) (beq_eq_false_iff_ne.2 hne.2.2.2.2.1) (beq_eq_false_iff_ne.2 hne.2.2.2.2.2) (beq_eq_false_iff_ne.2 h2) (beq_eq_false_iff_ne.2 h4) (beq_eq_false_iff_ne.2 h13) hkl (fun k hk => ih k (hkd k hk).1 (hb.kid hk) (o5 k hk) (hkd k hk).2 (hksh k hk) (kids_expr he hne hr k hk) false) fun l hl hkt => ?_
  have h := c146 op nm num ks l hl (kidsT_sz (fun k hk s hs => typeT_sz k.size k (Nat.le_refl _) (hb.kid hk) false s hs) hkt) hkl o2 he hne hr
  rw [Tr.d_mk] at h
  exact h
end
section
theorem c78 (op : Int) (nm : ByteArray) (num : Int) (ks : List Tr) : Pf Tryz.prog 78 [.agg [.int .i64 op, .str nm, .int .i64 num, .sl (ks.map Tr.d)]] (.d (.bool (andI num 4 != 0))) := by
 refine pfb Tryz.func78 Tryz.ntmps78 Tryz.results78 (fun S0 O0 w0 m0 hm0 => ?_)
 repeat' first | refine st (by exact rfl) ?_ | fail
 exact Y1
end
section
theorem split_one {α : Type} {x : α} : ∀ {l r a b : List α}, x ∉ l → x ∉ r → a ++ x :: b = l ++ x :: r → a = l ∧ b = r
 | [], r, [], b, _, _, h => by injection h with _ h; exact ⟨rfl, h⟩
 | [], r, y :: a, b, _, hr, h => by
  injection h with _ h
  exact absurd (show x ∈ r by rw [← h]; simp) hr
 | y :: l, r, [], b, hl, _, h => by
  injection h with h _
  subst h
  exact absurd (.head _) hl
 | y :: l, r, z :: a, b, hl, hr, h => by
  injection h with h1 h2
  obtain ⟨rfl, rfl⟩ := split_one (fun hx => hl (.tail _ hx)) hr h2
  subst h1
  exact ⟨rfl, rfl⟩
theorem ba_ext {a b : ByteArray} (h : a.data.toList = b.data.toList) : a = b := by
 obtain ⟨⟨a⟩⟩ := a
 obtain ⟨⟨b⟩⟩ := b
 have h : a = b := h
 rw [h]
theorem joinT_data (a b : ByteArray) : (joinT a b).data.toList = a.data.toList ++ 32 :: b.data.toList := by
 unfold joinT
 simp [ByteArray.data_append]
variable {t : ByteArray}
theorem joinT_iff {a b s : ByteArray} (hs : (32 : UInt8) ∉ s.data.toList) (ht : (32 : UInt8) ∉ t.data.toList) : joinT a b = joinT s t ↔ a = s ∧ b = t := by
 constructor
 · intro h
   have h1 := congrArg (fun x : ByteArray => x.data.toList) h
   rw [joinT_data, joinT_data] at h1
   obtain ⟨h2, h3⟩ := split_one hs ht h1
   exact ⟨ba_ext h2, ba_ext h3⟩
 · rintro ⟨rfl, rfl⟩; rfl
theorem join_int (a b : ByteArray) : (⟨#[105, 110, 116, 32, 105, 110, 116]⟩ : ByteArray) = joinT a b ↔ a = sInt ∧ b = sInt := by
 rw [show (⟨#[105, 110, 116, 32, 105, 110, 116]⟩ : ByteArray) = joinT sInt sInt from by decide, eq_comm]
 exact joinT_iff (by decide) (by decide)
theorem join_bool (a b : ByteArray) : (⟨#[98, 111, 111, 108, 32, 98, 111, 111, 108]⟩ : ByteArray) = joinT a b ↔ a = sBool ∧ b = sBool := by
 rw [show (⟨#[98, 111, 111, 108, 32, 98, 111, 111, 108]⟩ : ByteArray) = joinT sBool sBool from by decide, eq_comm]
 exact joinT_iff (by decide) (by decide)
def allR (l : List ByteArray) (z : Nat) (t : ByteArray) : Bool := (l.drop z).all fun s => decide (s = t)
theorem allB_eq (l : List ByteArray) (t : ByteArray) : allB l t = l.all fun s => decide (s = t) := by
 unfold allB
 rw [List.any_eq_not_all_not]
 simp
theorem allR0 (l : List ByteArray) (t : ByteArray) : allR l 0 t = allB l t := by rw [allB_eq]; rfl
theorem allR1 (a : ByteArray) (l : List ByteArray) (t : ByteArray) : allR (a :: l) 1 t = allB l t := by rw [allB_eq]; rfl
def biR (nm : ByteArray) (l : List ByteArray) : ByteArray × Bool :=
 if (decide (nm = ⟨#[43]⟩) || decide (nm = ⟨#[45]⟩) || decide (nm = ⟨#[42]⟩) || decide (nm = ⟨#[47]⟩) || decide (nm = ⟨#[37]⟩)) = true then (sInt, allR l 0 sInt)
 else if (decide (nm = ⟨#[61, 61]⟩) || decide (nm = ⟨#[33, 61]⟩)) = true then (sBool, allR l 0 sInt || allR l 0 sBool)
 else if (decide (nm = ⟨#[60]⟩) || decide (nm = ⟨#[60, 61]⟩) || decide (nm = ⟨#[62]⟩) || decide (nm = ⟨#[62, 61]⟩)) = true then (sBool, allR l 0 sInt)
 else (sBool, allR l 0 sBool)
def fieldR (nm t : ByteArray) : ByteArray × Bool :=
 if nm = sSize then (sInt, (decide (t = sRange) || isDomB t) || isArrB t)
 else if nm = sDomain then (if t = sArr1 then (sDom1, true) else (sDom2, decide (t = sArr2)))
 else (sInt, decide (t = sRange))
def opR (op : Int) (nm : ByteArray) : List ByteArray → ByteArray × Bool
 | [] => (⟨#[]⟩, false)
 | a :: r =>
  if op = 5 then (if nm = ⟨#[45]⟩ then (sInt, decide (a = sInt)) else (sBool, decide (a = sBool)))
  else if op = 6 then biR nm (a :: r)
  else if op = 7 then (sRange, allR (a :: r) 0 sInt)
  else if op = 8 ∨ op = 9 then (match r with | [] => (⟨#[]⟩, false) | b :: _ => (sRange, decide (a = sRange) && decide (b = sInt)))
  else if op = 10 then ((match r with | [] => sDom1 | _ => sDom2), allR (a :: r) 0 sRange)
  else if op = 11 then (a, isDomB a && allR (a :: r) 1 sInt)
  else if op = 12 then (sInt, decide (a = (match r with | [_] => sArr1 | _ => sArr2)) && allR (a :: r) 1 sInt)
  else if op = 14 then fieldR nm a
  else if op = 15 then ((methR nm).2.2, decide (a = (methR nm).2.1) && allR (a :: r) 1 sInt)
  else if op = 18 then (sInt, (decide (a = sRange) || decide (a = sDom1)) || isArrB a)
  else match r with
   | b :: c :: _ => (b, (decide (a = sBool) && decide (b = c)) && (((decide (b = sInt) || decide (b = sBool)) || decide (b = sRange)) || isDomB b))
   | _ => (⟨#[]⟩, false)
def okE (x : ByteArray × Bool) : Except Int ByteArray := if x.2 = true then .ok x.1 else .error 13
theorem opE_when {b : Bool} (h : b = true → t ≠ ⟨#[]⟩) : opE (whenS b t) = okE (t, b) := by
 unfold opE whenS okE
 cases b with
 | true => simp [h rfl]
 | false => simp
theorem opE_rule1 {k v : ByteArray} (h : v ≠ ⟨#[]⟩) : opE (ruleT [(k, v)] t) = okE (v, decide (k = t)) := by
 unfold opE okE
 rw [ruleT, ruleT]
 by_cases hk : k = t
 · rw [if_pos hk, if_neg h, if_pos (decide_eq_true hk)]
 · rw [if_neg hk, if_pos rfl, if_neg (by simpa using hk)]
theorem opE_rule2 {k k' v : ByteArray} (h : v ≠ ⟨#[]⟩) : opE (ruleT [(k, v), (k', v)] t) = okE (v, decide (k = t) || decide (k' = t)) := by
 unfold opE okE
 rw [ruleT, ruleT, ruleT]
 by_cases hk : k = t
 · rw [if_pos hk, if_neg h, if_pos (by simp [hk])]
 · by_cases hk' : k' = t
   · rw [if_neg hk, if_pos hk', if_neg h, if_pos (by simp [hk'])]
   · rw [if_neg hk, if_neg hk', if_pos rfl, if_neg (by simp [hk, hk'])]
theorem all2 (a b t : ByteArray) : allR [a, b] 0 t = (decide (a = t) && decide (b = t)) := by
 simp [allR]
theorem bi_eq (nm a b : ByteArray) : opE (ruleT (ruB nm) (joinT a b)) = okE (biR nm [a, b]) := by
 have hi : decide ((⟨#[105, 110, 116, 32, 105, 110, 116]⟩ : ByteArray) = joinT a b) = allR [a, b] 0 sInt := by
  rw [all2, Bool.eq_iff_iff]
  simp only [decide_eq_true_eq, Bool.and_eq_true]
  exact join_int a b
 have hb : decide ((⟨#[98, 111, 111, 108, 32, 98, 111, 111, 108]⟩ : ByteArray) = joinT a b) = allR [a, b] 0 sBool := by
  rw [all2, Bool.eq_iff_iff]
  simp only [decide_eq_true_eq, Bool.and_eq_true]
  exact join_bool a b
 unfold ruB biR
 repeat' split
 · rw [opE_rule1 (by decide), hi]; rfl
 · rw [opE_rule2 (by decide), hi, hb]; rfl
 · rw [opE_rule1 (by decide), hi]; rfl
 · rw [opE_rule1 (by decide), hb]; rfl
theorem field_eq (nm t : ByteArray) : opE (fieldT nm t) = okE (fieldR nm t) := by
 unfold fieldT fieldR
 by_cases h1 : nm = sSize
 · subst h1
   rw [if_pos rfl]
   cases hb : ((decide (t = sRange) || isDomB t) || isArrB t) with
   | true => rw [if_pos (by simp)]; unfold opE okE; rw [if_neg (by decide), if_pos rfl]
   | false =>
    rw [if_neg (by simp), if_neg (by simp; intro h; exact absurd h (by decide)), if_neg (by simp)]
    unfold opE okE
    rw [if_pos rfl, if_neg (by decide)]
 · rw [if_neg h1]
   by_cases h2 : nm = sDomain
   · subst h2
     rw [if_pos rfl, if_neg (by simp; intro h; exact absurd h (by decide))]
     by_cases h3 : t = sArr1
     · subst h3; rfl
     · rw [if_neg h3]
       by_cases h4 : t = sArr2
       · subst h4; rfl
       · rw [if_neg (by simp [isArrB, h3, h4]), if_neg (by simp)]
         unfold opE okE
         rw [if_pos rfl, if_neg (by simpa using h4)]
   · rw [if_neg h2, if_neg (by simp [h1]), if_neg (by simp [h2])]
     by_cases h3 : t = sRange
     · rw [if_pos (by simp [h1, h2, h3])]
       unfold opE okE
       rw [if_neg (by decide), if_pos (by simpa using h3)]
     · rw [if_neg (by simp [h3])]
       unfold opE okE
       rw [if_pos rfl, if_neg (by simpa using h3)]
theorem dom_ne {a : ByteArray} (h : isDomB a = true) : a ≠ ⟨#[]⟩ := by
 rintro rfl
 exact absurd h (by decide)
theorem meth_eq {nm : ByteArray} (h : 0 ≤ (methR nm).1) : (methR nm).2.1 = (opGet nm).1 ∧ (methR nm).2.2 = (opGet nm).2.1 ∧ (opGet nm).2.1 ≠ ⟨#[]⟩ := by
 unfold methR opGet at *
 cases hf : opTab.find? (fun x => decide (x.1 = nm)) with
 | none => rw [hf] at h; exact absurd h (by decide)
 | some x =>
  refine ⟨rfl, rfl, ?_⟩
  have hall : (opTab.all fun x => decide (x.2.2.1 ≠ ⟨#[]⟩)) = true := by decide
  exact oR (List.all_eq_true.1 hall x (List.mem_of_find?_eq_some hf))
theorem opE_eq (op : Int) (nm : ByteArray) (num : Int) (ks : List Tr) (l : List ByteArray) (hl : l.length = ks.length) (he : isExprB op = true) (hn : op ≠ 1 ∧ op ≠ 2 ∧ op ≠ 4 ∧ op ≠ 13 ∧ op ≠ 16 ∧ op ≠ 17) (hr : rightB (.mk op nm num ks) = true) : opE (opT op nm l) = okE (opR op nm l) := by
 have ho : op = 5 ∨ op = 6 ∨ op = 7 ∨ op = 8 ∨ op = 9 ∨ op = 10 ∨ op = 11 ∨ op = 12 ∨ op = 14 ∨ op = 15 ∨ op = 18 ∨ op = 19 := by
  unfold isExprB at he
  simp only [Bool.and_eq_true, decide_eq_true_eq, bne_iff_ne, ne_eq] at he
  omega
 rcases ho with rfl | rfl | rfl | rfl | rfl | rfl | rfl | rfl | rfl | rfl | rfl | rfl
 · rw [right5, Bool.and_eq_true] at hr
   obtain ⟨a, rfl⟩ := ln1 (hl.trans (kw1 hr.2))
   show opE (ruleT (ruU nm) a) = okE (if nm = ⟨#[45]⟩ then (sInt, decide (a = sInt)) else (sBool, decide (a = sBool)))
   unfold ruU
   split
   · rw [opE_rule1 (by decide)]; simp only [eq_comm]; rfl
   · rw [opE_rule1 (by decide)]; simp only [eq_comm]; rfl
 · rw [right6, Bool.and_eq_true] at hr
   obtain ⟨a, b, rfl⟩ := ln2 (hl.trans (kw2 hr.2))
   exact bi_eq nm a b
 · rw [right7, Bool.and_eq_true] at hr
   obtain ⟨a, b, rfl⟩ := ln2 (hl.trans (kw2 hr.2))
   show opE (whenS (allB [a, b] sInt) sRange) = okE (sRange, allR [a, b] 0 sInt)
   rw [allR0]; exact opE_when fun _ => by decide
 · rw [right8, Bool.and_eq_true] at hr
   obtain ⟨a, b, rfl⟩ := ln2 (hl.trans (kw2 hr.2))
   exact opE_when fun _ => by decide
 · rw [right9, Bool.and_eq_true] at hr
   obtain ⟨a, b, rfl⟩ := ln2 (hl.trans (kw2 hr.2))
   exact opE_when fun _ => by decide
 · rw [right10, Bool.and_eq_true, Bool.or_eq_true] at hr
   rcases hr.2 with h | h
   · obtain ⟨a, rfl⟩ := ln1 (hl.trans (kw1 h))
     show opE (whenS (allB [a] sRange) sDom1) = okE (sDom1, allR [a] 0 sRange)
     rw [allR0]; exact opE_when fun _ => by decide
   · obtain ⟨a, b, rfl⟩ := ln2 (hl.trans (kw2 h))
     show opE (whenS (allB [a, b] sRange) sDom2) = okE (sDom2, allR [a, b] 0 sRange)
     rw [allR0]; exact opE_when fun _ => by decide
 · have hl0 : 0 < l.length := by
    rw [right11] at hr
    rw [hl]
    split at hr <;> rw [Bool.and_eq_true] at hr
    · rw [kw2 hr.2]; decide
    · rw [kw1 hr.2]; decide
   obtain ⟨a, r, rfl⟩ := lnS hl0
   show opE (whenS (isDomB a && allB r sInt) a) = okE (a, isDomB a && allR (a :: r) 1 sInt)
   rw [allR1]; exact opE_when fun h => dom_ne (by rw [Bool.and_eq_true] at h; exact h.1)
 · rw [right12, Bool.and_eq_true, Bool.or_eq_true] at hr
   rcases hr.2 with h | h
   · obtain ⟨a, b, rfl⟩ := ln2 (hl.trans (kw2 h))
     show opE (whenS (decide (a = sArr1) && allB [b] sInt) sInt) = okE (sInt, decide (a = sArr1) && allR [a, b] 1 sInt)
     rw [allR1]; exact opE_when fun _ => by decide
   · obtain ⟨a, b, c, rfl⟩ := ln3 (hl.trans (kw3 h))
     show opE (whenS (decide (a = sArr2) && allB [b, c] sInt) sInt) = okE (sInt, decide (a = sArr2) && allR [a, b, c] 1 sInt)
     rw [allR1]; exact opE_when fun _ => by decide
 · rw [right14, Bool.and_eq_true] at hr
   obtain ⟨a, rfl⟩ := ln1 (hl.trans (kw1 hr.2))
   exact field_eq nm a
 · rw [right15] at hr
   simp only [Bool.and_eq_true, decide_eq_true_eq] at hr
   obtain ⟨⟨h0, _⟩, hk⟩ := hr
   have hl0 : 0 < l.length := by
    rw [hl]
    have h2 := methR_le nm
    have hm : ((methR nm).1 + 1).toNat = 1 ∨ ((methR nm).1 + 1).toNat = 2 ∨ ((methR nm).1 + 1).toNat = 3 := by omega
    rcases hm with h | h | h <;> rw [h] at hk <;> rw [kidsB_len hk] <;> decide
   obtain ⟨a, r, rfl⟩ := lnS hl0
   obtain ⟨m1, m2, m3⟩ := meth_eq (nm := nm) h0
   show opE (whenS (decide (a = (opGet nm).1) && allB r sInt) (opGet nm).2.1) = okE ((methR nm).2.2, decide (a = (methR nm).2.1) && allR (a :: r) 1 sInt)
   rw [allR1, m1, m2]; exact opE_when fun _ => m3
 · rw [right18, Bool.and_eq_true] at hr
   obtain ⟨a, rfl⟩ := ln1 (hl.trans (kw1 hr.2))
   exact opE_when fun _ => by decide
 · rw [right19, Bool.and_eq_true] at hr
   obtain ⟨a, b, c, rfl⟩ := ln3 (hl.trans (kw3 hr.2))
   refine opE_when fun h => ?_
   rw [Bool.and_eq_true] at h
   rintro rfl
   exact absurd h.2 (by decide)
end
end Go.Proofs.YtklkbfpjimeaoaaGreat
