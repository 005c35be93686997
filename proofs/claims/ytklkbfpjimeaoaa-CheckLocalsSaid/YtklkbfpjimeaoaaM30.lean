import Derived.Test.YtklkbfpjimeaoaaM29
/- Contracts of functions. Conditions: none. -/
set_option linter.unusedSimpArgs false
set_option linter.unusedVariables false
set_option maxRecDepth 20000
namespace Go.Proofs.Ytklkbfpjimeaoaa
open Go Go.Proofs.Ytklkbfpjimeaoaa.E
theorem gv_cells (l : List Gv) : ∀ x ∈ l.map Gv.d, x.cells.length = 3 := fun x hx => by
 obtain ⟨y, _, rfl⟩ := List.mem_map.1 hx
 rfl
variable {s : ByteArray}
theorem findL_skip : ∀ {a b : List Lc}, (∀ x ∈ a, x.nm ≠ s) → findL s (a ++ b) = findL s b
 | [], _, _ => rfl
 | x :: r, b, h => by
  rw [List.cons_append, findL, if_neg (h x (.head _))]
  exact findL_skip fun y hy => h y (.tail _ hy)
variable {p : Pg} {g : List Gv}
theorem look_of {a b : List Lc} (h : findL s a = findL s b) : lookN ⟨p, g, a⟩ s = lookN ⟨p, g, b⟩ s := by
 unfold lookN
 dsimp only
 rw [h]
theorem look_other {ls : List Gv} {o : Gv} (h : o.nm ≠ s) : lookN ⟨p, g, ((ls ++ [o]).map toLc).reverse⟩ s = lookN ⟨p, g, (ls.map toLc).reverse⟩ s := by
 refine look_of ?_
 rw [List.map_append, List.reverse_append]
 show findL s (toLc o :: (ls.map toLc).reverse) = _
 rw [findL, if_neg (show ¬ (toLc o).nm = s from h)]
theorem findL_hit {x : Lc} {r : List Lc} (h : x.nm = s) : findL s (x :: r) = x :: r := by rw [findL, if_pos h]
theorem look_twin {ls : List Gv} {z : Nat} {v : Gv} (hv : ls[z]? = some v) (hn : ((ls.drop (z + 1)).any fun w => decide (w.nm = v.nm)) = false) (s : ByteArray) : lookN ⟨p, g, ((ls ++ [v]).map toLc).reverse⟩ s = lookN ⟨p, g, (ls.map toLc).reverse⟩ s := by
 by_cases h : v.nm = s
 · have h1 : findL s ((ls ++ [v]).map toLc).reverse = toLc v :: (ls.map toLc).reverse := by
    rw [List.map_append, List.reverse_append]
    exact findL_hit h
   have h2 : findL s (ls.map toLc).reverse = toLc v :: ((ls.take z).map toLc).reverse := by
    obtain ⟨hz, hv'⟩ := List.getElem?_eq_some_iff.1 hv
    have e : ls = ls.take z ++ v :: ls.drop (z + 1) := by
     rw [← hv', ← List.drop_eq_getElem_cons hz, List.take_append_drop]
    have e2 : (ls.map toLc).reverse = ((ls.drop (z + 1)).map toLc).reverse ++ (toLc v :: ((ls.take z).map toLc).reverse) := by
     conv => lhs; rw [e]
     simp
    rw [e2, findL_skip fun x hx => ?_, findL_hit h]
    rw [List.mem_reverse] at hx
    obtain ⟨y, hy, rfl⟩ := List.mem_map.1 hx
    intro hne
    have : ((ls.drop (z + 1)).any fun w => decide (w.nm = v.nm)) = true := List.any_eq_true.2 ⟨y, hy, decide_eq_true ((show y.nm = s from hne).trans h.symm)⟩
    rw [hn] at this; cases this
   unfold lookN
   dsimp only
   rw [h1, h2]
 · exact look_other h
theorem tyC_congr {e : Tr} {a b : List Gv} (h : nodeE e = 0 → isExprB e.op = true → ∀ s, e.emp s = true → lookN ⟨p, globC p [] p.globals, (a.map toLc).reverse⟩ s = lookN ⟨p, globC p [] p.globals, (b.map toLc).reverse⟩ s) : tyC p e a = tyC p e b := by
 unfold tyC
 by_cases h1 : (nodeE e != 0) = true
 · rw [if_pos h1, if_pos h1]
 · rw [if_neg h1, if_neg h1]
   by_cases h2 : (!isExprB e.op) = true
   · rw [if_pos h2, if_pos h2]
   · rw [if_neg h2, if_neg h2]
     exact typeT_congr (n := ⟨p, globC p [] p.globals, (a.map toLc).reverse⟩) (n' := ⟨p, globC p [] p.globals, (b.map toLc).reverse⟩) rfl e.size e (Nat.le_refl _) (fun s hs => congrArg lookE (h (by simpa using h1) (by simpa using h2) s hs)) false
theorem not_used {e : Tr} {o : ByteArray} (h : freeF e.size e (hasB [o]) [] = []) (h1 : nodeE e = 0) (h2 : isExprB e.op = true) : ∀ s, e.emp s = true → o ≠ s := fun s hs ho => by
 subst ho
 have := (free_uses e.size e (hasB [o]) [] (Nat.le_refl _) (nodeE_sh h1) (.inl h2)).2 o (by simp [hasB]) hs
 rw [h] at this; cases this
theorem c12n (l : List Gv) (hlim : l.length ≤ 1000000) : Pf Try.prog 12 [.sl (l.map Gv.d)] (.osl 3 (l.map Gv.d)) := by
 cases l with
 | nil =>
  refine pfb Try.func12 Try.ntmps12 Try.results12 (fun S0 O0 w0 m0 hm0 => ?_)
  repeat' first | refine st (by exact rfl) ?_ | fail
  refine toO (g_sleqU u35 rfl (fun b => ofO ?_))
  repeat' first | refine st (by exact rfl) ?_ | fail
  refine cd (by exact rfl) (fun hb => ?_) (fun hb => ?_)
  · repeat' (fail_if_success refine gLe (c := .ops _ []) (s' := ⟨[(2, .osl 3 [])], []⟩) le_of ?_ rfl); first | refine st (by exact rfl) ?_ | fail
    refine gLe (s' := ⟨[(2, .osl 3 [])], []⟩) le_of ?_ rfl
    repeat' first | refine st (by exact rfl) ?_ | fail
    exact gEndO (by rfl) (by rfl) rfl
  · repeat' first | refine st (by exact rfl) ?_ | refine bs (by exact rfl) ?_ | refine ap0 (by exact rfl) ?_ | fail
    exact gEndO (by rfl) (by rfl) rfl
 | cons c r =>
  have hk1 : ∀ y ∈ (c :: r).map Gv.d, y.cells.length = 3 := gv_cells (c :: r)
  simp only [List.length_cons] at hlim
  refine pfb Try.func12 Try.ntmps12 Try.results12 (fun S0 O0 w0 m0 hm0 => ?_)
  repeat' first | refine st (by exact rfl) ?_ | fail
  refine toO (vq rfl ((q_sleql u35)) (ofO ?_))
  repeat' first | refine st (by exact rfl) ?_ | refine cf (by exact rfl) ?_ rfl | refine bs (by exact rfl) ?_ | refine ap (by exact rfl) ?_ (hk := hk1) | fail
  exact gEndO (by rfl) (by rfl) rfl
theorem c14n (w v : Gv) : Pf Try.prog 14 [.agg [.str w.nm, .str w.ty, .bool w.con], .ptr (.agg [.str v.nm, .str v.ty, .bool v.con])] (.d (.bool (decide (w.nm = v.nm)))) := by
 refine pfb Try.func14 Try.ntmps14 Try.results14 (fun S0 O0 w0 m0 hm0 => ?_)
 repeat' first | refine st (by exact rfl) ?_ | fail
 exact Y0
theorem c38n (ls : List Gv) (v : Gv) (hl : ls.length ≤ 140737488355328) : Pf Try.prog 38 [.sl (ls.map Gv.d), .fn (.func 14) [] [.ptr (.agg [.str v.nm, .str v.ty, .bool v.con])]] (.d (.int .i64 (idxL (fun w : Gv => decide (w.nm = v.nm)) ls))) := by
 refine pfb Try.func38 Try.ntmps38 Try.results38 (fun S0 O0 w0 m0 hm0 => ?_)
 repeat' first | refine st (by exact rfl) ?_ | fail
 have hlen : (ls.map Gv.d).length = ls.length := List.length_map ..
 refine gLo (fun z : Nat => ⟨[(0, .d (.sl (ls.map Gv.d))), (1, .d (.fn (.func 14) [] [.ptr (.agg [.str v.nm, .str v.ty, .bool v.con])])), (7, .d (.int .i64 ((ls.map Gv.d).length : Int))), (8, .d (.int .i64 (z : Int)))], []⟩) (fun z => ls.length - z) (fun z => ∀ i, i < z → ∀ y, ls[i]? = some y → (fun w : Gv => decide (w.nm = v.nm)) y = false) 0 (fun i hi => absurd hi (Nat.not_lt_zero _)) le_of (fun z hz Q' hn he hr hp => ?_)
 repeat' first | refine st (by exact rfl) ?_ | fail
 refine cd (by exact rfl) (fun hb => ?_) (fun hb => ?_)
 · have hlt : z < ls.length := by have := oR hb; omega
   obtain ⟨x, hgx⟩ : ∃ x, ls[z]? = some x := ⟨_, gE hlt⟩
   repeat' first | refine st (by exact rfl) ?_ | fail
   refine el (by exact rfl) (gv_get hgx) ?_ (by omega)
   repeat' first | refine st (by exact rfl) ?_ | refine cl (by exact rfl) (c14n x v) ?_ | fail
   by_cases hx : decide (x.nm = v.nm) = true
   · refine ct (by exact rfl) ?_ hx
     repeat' first | refine st (by exact rfl) ?_ | fail
     refine toL (hr _ ?_)
     repeat' first | refine st (by exact rfl) ?_ | fail
     exact en (by exact rfl) (idxL_found hz hgx hx)
   · refine cf (by exact rfl) ?_ (eq_false_of_ne_true hx)
     repeat' first | refine st (by exact rfl) ?_ | fail
     rw [wrap_succ (by omega)]
     exact Y15
 · have hlt : ls.length ≤ z := by have := of_decide_eq_false hb; omega
   repeat' first | refine st (by exact rfl) ?_ | fail
   refine Z45 ?_
   repeat' first | refine st (by exact rfl) ?_ | fail
   exact en (by exact rfl) (idxL_none fun i hi y hy => hz i (by omega) y hy)
theorem c13n (ls : List Gv) (v : Gv) (hl : ls.length ≤ 140737488355328) : Pf Try.prog 13 [.sl (ls.map Gv.d), .fn (.func 14) [] [.ptr (.agg [.str v.nm, .str v.ty, .bool v.con])]] (.d (.bool (ls.any fun w => decide (w.nm = v.nm)))) := by
 refine pfb Try.func13 Try.ntmps13 Try.results13 (fun S0 O0 w0 m0 hm0 => ?_)
 repeat' first | refine st (by exact rfl) ?_ | refine cl (by exact rfl) (c38n ls v hl) ?_ | fail
 exact en (by exact rfl) (by rw [← idxL_any])
set_option maxHeartbeats 8000000 in
theorem c3l (p : Pg) (hp : p.Ok) (e : Tr) (hok : e.Ok) (ls : List Gv) (hll : ls.length ≤ 140737488355328) (o : Gv) : Pf Try.prog 3 [(.agg [.sl (p.globals.map Tr.d), .sl (p.procs.map Pc.d)]), e.d, .sl (ls.map Gv.d), .agg [.str o.nm, .str o.ty, .bool o.con]] (.d (.bool true)) := by
 have q14 := c14g p 200 hp (by decide) (by decide)
 have q15 := c15 e hok 200 (by decide) (by decide)
 have q16 := c16 ls hll
 have hF := few_facts (p := p) (m := 200) (by decide) (by decide)
 have hL := longN_facts (t := e) (m := 200) (by decide) (by decide)
 have hG := fewG_facts (ls := ls)
 have q18 := fun ls' a b c d f g => c18 p hp a b c e hok d ls' f g
 have q19 := c19 ls
 have q11 := fun h => c11 e h [o.nm] (show (1 : Nat) ≤ 1000000 by decide)
 have hnu := not_used (e := e) (o := o.nm)
 have hlen : (ls.map Gv.d).length = ls.length := List.length_map ..
 unfold Pg.d at q18
 generalize p.few 200 = fw at *
 generalize e.longN 200 = lo at *
 generalize fewG ls = fg at *
 generalize hfr : freeF e.size e (hasB [o.nm]) [] = fr at *
 rw [t_eta e] at q15 q11 ⊢
 have q18' := q18
 rw [t_eta e] at q18'
 refine pfb Try.func3 Try.ntmps3 Try.results3 (fun S0 O0 w0 m0 hm0 => ?_)
 repeat' (fail_if_success with_reducible refine ar 1 ?_); first | refine st (by exact rfl) ?_ | fail
 refine Z17 ?_;refine Z17 ?_;refine Z17 ?_
 repeat' first | refine st (by exact rfl) ?_ | refine cl (by exact rfl) q14 ?_ | refine clg (by exact rfl) (fun _ => q15) ?_ | refine clg (by exact rfl) (fun _ => q16) ?_ | fail
 refine cd (by exact rfl) (fun hb => ?_) (fun hb => ?_)
 · repeat' first | refine st (by exact rfl) ?_ | refine cl (by exact rfl) c17 ?_ | fail
   exact Y0
 · have h1 : fw = true := by cases fw <;> simp_all
   have h2 : lo = false := by cases lo <;> simp_all
   have h3 : fg = true := by cases fg <;> simp_all
   obtain ⟨f1, f2, f3⟩ := hF h1
   obtain ⟨g1, g2⟩ := hG h3
   have hes := hL h2
   replace q19 := q19 (by omega)
   replace q11 := q11 hes
   have q12 := c12n ls (by omega)
   have hbd := fun (l : List Gv) (h : ∀ x ∈ l, x.ty.size ≤ 100) => names_bd (p := p) (ls := l) (fun g hg => hp.g.2 g hg) f3 (fun x hx => by have := h x hx; omega)
   have hUl : ∀ (l : List Gv), (∀ x ∈ l, x.ty.size ≤ 100) → ∀ s, e.emp s = true → ∀ x, lookN ⟨p, globC p [] p.globals, (l.map toLc).reverse⟩ s = some x → x.ty.size ≤ 1000000 := fun l h s _ x hx => lookN_sz (hbd l h) hx
   have q0 := q18' ls f1 f2 f3 hes (by omega) (fun _ _ => hUl ls (fun x hx => (g2 x hx).2))
   have qtwin : ∀ (z : Nat) (v : Gv), ls[z]? = some v → ((ls.drop (z + 1)).any fun w => decide (w.nm = v.nm)) = false → v ∈ ls → Pf Try.prog 10 [.agg [.sl (p.globals.map Tr.d), .sl (p.procs.map Pc.d)], (.agg [.int .i64 e.op, .str e.nm, .int .i64 e.nu, .sl (e.kids.map Tr.d)]), .sl ((ls ++ [v]).map Gv.d)] (outR (tyC p e ls)) := fun z v hv hn hvm => by
    have h := q18' (ls ++ [v]) f1 f2 f3 hes (by rw [List.length_append]; simp; omega) (fun _ _ => hUl _ (fun x hx => by
     rcases List.mem_append.1 hx with hx | hx
     · exact (g2 x hx).2
     · simp only [List.mem_cons, List.not_mem_nil, or_false] at hx; subst hx; exact (g2 _ hvm).2))
    rw [tyC_congr (a := ls ++ [v]) (b := ls) (fun _ _ s _ => look_twin hv hn s)] at h
    exact h
   have qother : fr = [] → Pf Try.prog 10 [.agg [.sl (p.globals.map Tr.d), .sl (p.procs.map Pc.d)], (.agg [.int .i64 e.op, .str e.nm, .int .i64 e.nu, .sl (e.kids.map Tr.d)]), .sl ((ls ++ [o]).map Gv.d)] (outR (tyC p e ls)) := fun hfe => by
    have hlk : nodeE e = 0 → isExprB e.op = true → ∀ s, e.emp s = true → lookN ⟨p, globC p [] p.globals, ((ls ++ [o]).map toLc).reverse⟩ s = lookN ⟨p, globC p [] p.globals, (ls.map toLc).reverse⟩ s := fun h1 h2 s hs => look_other (hnu hfe h1 h2 s hs)
    have h := q18' (ls ++ [o]) f1 f2 f3 hes (by rw [List.length_append]; simp; omega) (fun h1 h2 s hs x hx => by
     rw [hlk h1 h2 s hs] at hx
     exact hUl ls (fun x hx => (g2 x hx).2) s hs x hx)
    rw [tyC_congr (a := ls ++ [o]) (b := ls) hlk] at h
    exact h
   clear q18 q18' hnu
   generalize hr0 : tyC p e ls = r at q0 qother
   repeat' first | refine st (by exact rfl) ?_ | refine cl (by exact rfl) q19 ?_ | fail
   cases r with
   | ok t =>
    dsimp only [outR] at q0 qother
    repeat' first | refine st (by exact rfl) ?_ | refine cl (by exact rfl) q0 ?_ | refine bs (by exact rfl) ?_ | refine cl (by exact rfl) q11 ?_ | fail
    refine cd (by exact rfl) (fun hb3 => ?_) (fun hb3 => ?_)
    · have hfe : fr = [] := by
       rw [beq_iff_eq] at hb3
       cases fr with
       | nil => rfl
       | cons a b => simp at hb3; omega
      have qo := qother hfe
      rw [List.map_append] at qo
      repeat' first | refine st (by exact rfl) ?_ | fail
      refine Z69 ?_
      iterate 3 refine ovk (hc := ?_)
      refine Z65 ?_;refine Z78 ?_;refine Z79 ?_;refine Z80 ?_
      refine ock (hcl := qo) (hc := ?_)
      iterate 5 refine ovk (hc := ?_)
      refine Z81 ?_
      repeat' first | refine st (by exact rfl) ?_ | refine cf (by exact rfl) ?_ (by simp) | fail
      refine gLo (fun z : Nat => ⟨[(4, .d (.ptr (.agg [.sl (p.globals.map Tr.d), .sl (p.procs.map Pc.d)]))), (5, .d (.ptr (.agg [.int .i64 e.op, .str e.nm, .int .i64 e.nu, .sl (e.kids.map Tr.d)]))), (9, .d (.sl (ls.map Gv.d))), (10, .d (.str t)), (11, .d (.int .i64 0)), (72, .d (.sl (ls.map Gv.d))), (73, .d (.int .i64 ((ls.map Gv.d).length : Int))), (74, .d (.int .i64 (z : Int)))], []⟩) (fun z => ls.length - z) (fun z => z ≤ ls.length) 0 (Nat.zero_le _) le_of (fun z hz Q' hn he hr hp' => ?_)
      repeat' first | refine st (by exact rfl) ?_ | fail
      refine cd (by exact rfl) (fun hb2 => ?_) (fun hb2 => ?_)
      · have hlt : z < ls.length := by have := oR hb2; omega
        obtain ⟨v, hv⟩ : ∃ v, ls[z]? = some v := ⟨_, gE hlt⟩
        have hvm := mG hv
        have hdr : List.drop (IntKind.i64.wrap ((z : Int) + 1)).toNat (ls.map Gv.d) = (ls.drop (z + 1)).map Gv.d := by
         rw [wrap_succ (by omega), Int.toNat_natCast, List.map_drop]
        have q13 := c13n (ls.drop (z + 1)) v (by rw [List.length_drop]; omega)
        repeat' first | refine st (by exact rfl) ?_ | fail
        refine el (by exact rfl) (gv_get hv) ?_ (by omega)
        iterate 4 refine st (by exact rfl) ?_
        refine Z17 ?_
        repeat' first | refine st (by exact rfl) ?_ | fail
        refine Z40 ?_
        rw [hdr]
        repeat' first | refine st (by exact rfl) ?_ | refine cl (by exact rfl) q13 ?_ | fail
        by_cases han : ((ls.drop (z + 1)).any fun w => decide (w.nm = v.nm)) = true
        · refine ct (by exact rfl) ?_ han
          repeat' first | refine st (by exact rfl) ?_ | fail
          rw [wrap_succ (by omega)]
          exact Y3
        · have qv := qtwin z v hv (eq_false_of_ne_true han) hvm
          rw [hr0] at qv
          rw [List.map_append] at qv
          refine cf (by exact rfl) ?_ (eq_false_of_ne_true han)
          repeat' first | refine st (by exact rfl) ?_ | fail
          refine Z69 ?_
          iterate 3 refine ovk (hc := ?_)
          refine Z65 ?_;refine Z78 ?_;refine Z79 ?_;refine Z80 ?_
          refine ock (hcl := qv) (hc := ?_)
          iterate 5 refine ovk (hc := ?_)
          refine Z81 ?_
          repeat' first | refine st (by exact rfl) ?_ | refine cf (by exact rfl) ?_ (by simp) | fail
          rw [wrap_succ (by omega)]
          exact Y3
      · repeat' first | refine st (by exact rfl) ?_ | fail
        refine Z45 ?_
        repeat' first | refine st (by exact rfl) ?_ | refine cl (by exact rfl) c17 ?_ | fail
        exact Y0
    · repeat' first | refine st (by exact rfl) ?_ | fail
      refine gLo (fun z : Nat => ⟨[(4, .d (.ptr (.agg [.sl (p.globals.map Tr.d), .sl (p.procs.map Pc.d)]))), (5, .d (.ptr (.agg [.int .i64 e.op, .str e.nm, .int .i64 e.nu, .sl (e.kids.map Tr.d)]))), (9, .d (.sl (ls.map Gv.d))), (10, .d (.str t)), (11, .d (.int .i64 0)), (72, .d (.sl (ls.map Gv.d))), (73, .d (.int .i64 ((ls.map Gv.d).length : Int))), (74, .d (.int .i64 (z : Int)))], []⟩) (fun z => ls.length - z) (fun z => z ≤ ls.length) 0 (Nat.zero_le _) le_of (fun z hz Q' hn he hr hp' => ?_)
      repeat' first | refine st (by exact rfl) ?_ | fail
      refine cd (by exact rfl) (fun hb2 => ?_) (fun hb2 => ?_)
      · have hlt : z < ls.length := by have := oR hb2; omega
        obtain ⟨v, hv⟩ : ∃ v, ls[z]? = some v := ⟨_, gE hlt⟩
        have hvm := mG hv
        have hdr : List.drop (IntKind.i64.wrap ((z : Int) + 1)).toNat (ls.map Gv.d) = (ls.drop (z + 1)).map Gv.d := by
         rw [wrap_succ (by omega), Int.toNat_natCast, List.map_drop]
        have q13 := c13n (ls.drop (z + 1)) v (by rw [List.length_drop]; omega)
        repeat' first | refine st (by exact rfl) ?_ | fail
        refine el (by exact rfl) (gv_get hv) ?_ (by omega)
        iterate 4 refine st (by exact rfl) ?_
        refine Z17 ?_
        repeat' first | refine st (by exact rfl) ?_ | fail
        refine Z40 ?_
        rw [hdr]
        repeat' first | refine st (by exact rfl) ?_ | refine cl (by exact rfl) q13 ?_ | fail
        by_cases han : ((ls.drop (z + 1)).any fun w => decide (w.nm = v.nm)) = true
        · refine ct (by exact rfl) ?_ han
          repeat' first | refine st (by exact rfl) ?_ | fail
          rw [wrap_succ (by omega)]
          exact Y3
        · have qv := qtwin z v hv (eq_false_of_ne_true han) hvm
          rw [hr0] at qv
          rw [List.map_append] at qv
          refine cf (by exact rfl) ?_ (eq_false_of_ne_true han)
          repeat' first | refine st (by exact rfl) ?_ | fail
          refine Z69 ?_
          iterate 3 refine ovk (hc := ?_)
          refine Z65 ?_;refine Z78 ?_;refine Z79 ?_;refine Z80 ?_
          refine ock (hcl := qv) (hc := ?_)
          iterate 5 refine ovk (hc := ?_)
          refine Z81 ?_
          repeat' first | refine st (by exact rfl) ?_ | refine cf (by exact rfl) ?_ (by simp) | fail
          rw [wrap_succ (by omega)]
          exact Y3
      · repeat' first | refine st (by exact rfl) ?_ | fail
        refine Z45 ?_
        repeat' first | refine st (by exact rfl) ?_ | refine cl (by exact rfl) c17 ?_ | fail
        exact Y0
   | error x =>
    dsimp only [outR] at q0 qother
    repeat' first | refine st (by exact rfl) ?_ | refine cl (by exact rfl) q0 ?_ | refine bs (by exact rfl) ?_ | refine cl (by exact rfl) q11 ?_ | fail
    refine cd (by exact rfl) (fun hb3 => ?_) (fun hb3 => ?_)
    · have hfe : fr = [] := by
       rw [beq_iff_eq] at hb3
       cases fr with
       | nil => rfl
       | cons a b => simp at hb3; omega
      have qo := qother hfe
      rw [List.map_append] at qo
      repeat' first | refine st (by exact rfl) ?_ | fail
      refine Z69 ?_
      iterate 3 refine ovk (hc := ?_)
      refine Z65 ?_;refine Z78 ?_;refine Z79 ?_;refine Z80 ?_
      refine ock (hcl := qo) (hc := ?_)
      iterate 5 refine ovk (hc := ?_)
      refine Z81 ?_
      repeat' first | refine st (by exact rfl) ?_ | refine cf (by exact rfl) ?_ (by simp) | fail
      refine gLo (fun z : Nat => ⟨[(4, .d (.ptr (.agg [.sl (p.globals.map Tr.d), .sl (p.procs.map Pc.d)]))), (5, .d (.ptr (.agg [.int .i64 e.op, .str e.nm, .int .i64 e.nu, .sl (e.kids.map Tr.d)]))), (9, .d (.sl (ls.map Gv.d))), (10, .d (.str ⟨#[]⟩)), (11, .d (.int .i64 x)), (72, .d (.sl (ls.map Gv.d))), (73, .d (.int .i64 ((ls.map Gv.d).length : Int))), (74, .d (.int .i64 (z : Int)))], []⟩) (fun z => ls.length - z) (fun z => z ≤ ls.length) 0 (Nat.zero_le _) le_of (fun z hz Q' hn he hr hp' => ?_)
      repeat' first | refine st (by exact rfl) ?_ | fail
      refine cd (by exact rfl) (fun hb2 => ?_) (fun hb2 => ?_)
      · have hlt : z < ls.length := by have := oR hb2; omega
        obtain ⟨v, hv⟩ : ∃ v, ls[z]? = some v := ⟨_, gE hlt⟩
        have hvm := mG hv
        have hdr : List.drop (IntKind.i64.wrap ((z : Int) + 1)).toNat (ls.map Gv.d) = (ls.drop (z + 1)).map Gv.d := by
         rw [wrap_succ (by omega), Int.toNat_natCast, List.map_drop]
        have q13 := c13n (ls.drop (z + 1)) v (by rw [List.length_drop]; omega)
        repeat' first | refine st (by exact rfl) ?_ | fail
        refine el (by exact rfl) (gv_get hv) ?_ (by omega)
        iterate 4 refine st (by exact rfl) ?_
        refine Z17 ?_
        repeat' first | refine st (by exact rfl) ?_ | fail
        refine Z40 ?_
        rw [hdr]
        repeat' first | refine st (by exact rfl) ?_ | refine cl (by exact rfl) q13 ?_ | fail
        by_cases han : ((ls.drop (z + 1)).any fun w => decide (w.nm = v.nm)) = true
        · refine ct (by exact rfl) ?_ han
          repeat' first | refine st (by exact rfl) ?_ | fail
          rw [wrap_succ (by omega)]
          exact Y3
        · have qv := qtwin z v hv (eq_false_of_ne_true han) hvm
          rw [hr0] at qv
          rw [List.map_append] at qv
          refine cf (by exact rfl) ?_ (eq_false_of_ne_true han)
          repeat' first | refine st (by exact rfl) ?_ | fail
          refine Z69 ?_
          iterate 3 refine ovk (hc := ?_)
          refine Z65 ?_;refine Z78 ?_;refine Z79 ?_;refine Z80 ?_
          refine ock (hcl := qv) (hc := ?_)
          iterate 5 refine ovk (hc := ?_)
          refine Z81 ?_
          repeat' first | refine st (by exact rfl) ?_ | refine cf (by exact rfl) ?_ (by simp) | fail
          rw [wrap_succ (by omega)]
          exact Y3
      · repeat' first | refine st (by exact rfl) ?_ | fail
        refine Z45 ?_
        repeat' first | refine st (by exact rfl) ?_ | refine cl (by exact rfl) c17 ?_ | fail
        exact Y0
    · repeat' first | refine st (by exact rfl) ?_ | fail
      refine gLo (fun z : Nat => ⟨[(4, .d (.ptr (.agg [.sl (p.globals.map Tr.d), .sl (p.procs.map Pc.d)]))), (5, .d (.ptr (.agg [.int .i64 e.op, .str e.nm, .int .i64 e.nu, .sl (e.kids.map Tr.d)]))), (9, .d (.sl (ls.map Gv.d))), (10, .d (.str ⟨#[]⟩)), (11, .d (.int .i64 x)), (72, .d (.sl (ls.map Gv.d))), (73, .d (.int .i64 ((ls.map Gv.d).length : Int))), (74, .d (.int .i64 (z : Int)))], []⟩) (fun z => ls.length - z) (fun z => z ≤ ls.length) 0 (Nat.zero_le _) le_of (fun z hz Q' hn he hr hp' => ?_)
      repeat' first | refine st (by exact rfl) ?_ | fail
      refine cd (by exact rfl) (fun hb2 => ?_) (fun hb2 => ?_)
      · have hlt : z < ls.length := by have := oR hb2; omega
        obtain ⟨v, hv⟩ : ∃ v, ls[z]? = some v := ⟨_, gE hlt⟩
        have hvm := mG hv
        have hdr : List.drop (IntKind.i64.wrap ((z : Int) + 1)).toNat (ls.map Gv.d) = (ls.drop (z + 1)).map Gv.d := by
         rw [wrap_succ (by omega), Int.toNat_natCast, List.map_drop]
        have q13 := c13n (ls.drop (z + 1)) v (by rw [List.length_drop]; omega)
        repeat' first | refine st (by exact rfl) ?_ | fail
        refine el (by exact rfl) (gv_get hv) ?_ (by omega)
        iterate 4 refine st (by exact rfl) ?_
        refine Z17 ?_
        repeat' first | refine st (by exact rfl) ?_ | fail
        refine Z40 ?_
        rw [hdr]
        repeat' first | refine st (by exact rfl) ?_ | refine cl (by exact rfl) q13 ?_ | fail
        by_cases han : ((ls.drop (z + 1)).any fun w => decide (w.nm = v.nm)) = true
        · refine ct (by exact rfl) ?_ han
          repeat' first | refine st (by exact rfl) ?_ | fail
          rw [wrap_succ (by omega)]
          exact Y3
        · have qv := qtwin z v hv (eq_false_of_ne_true han) hvm
          rw [hr0] at qv
          rw [List.map_append] at qv
          refine cf (by exact rfl) ?_ (eq_false_of_ne_true han)
          repeat' first | refine st (by exact rfl) ?_ | fail
          refine Z69 ?_
          iterate 3 refine ovk (hc := ?_)
          refine Z65 ?_;refine Z78 ?_;refine Z79 ?_;refine Z80 ?_
          refine ock (hcl := qv) (hc := ?_)
          iterate 5 refine ovk (hc := ?_)
          refine Z81 ?_
          repeat' first | refine st (by exact rfl) ?_ | refine cf (by exact rfl) ?_ (by simp) | fail
          rw [wrap_succ (by omega)]
          exact Y3
      · repeat' first | refine st (by exact rfl) ?_ | fail
        refine Z45 ?_
        repeat' first | refine st (by exact rfl) ?_ | refine cl (by exact rfl) c17 ?_ | fail
        exact Y0
end Go.Proofs.Ytklkbfpjimeaoaa
