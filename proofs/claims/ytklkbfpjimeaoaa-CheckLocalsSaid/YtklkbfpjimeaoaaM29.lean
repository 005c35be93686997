import Derived.Test.YtklkbfpjimeaoaaM28
import Derived.Test.YtklkbfpjimeaoaaM26
import Derived.Test.YtklkbfpjimeaoaaM25
import Derived.Test.YtklkbfpjimeaoaaM22
/- Contracts of functions. Conditions: none. -/
set_option linter.unusedSimpArgs false
set_option linter.unusedVariables false
set_option maxRecDepth 20000
namespace Go.Proofs.Ytklkbfpjimeaoaa
open Go Go.Proofs.Ytklkbfpjimeaoaa.E
section
def okS : Except Int ByteArray → ByteArray
 | .ok s => s
 | .error _ => ⟨#[]⟩
def exE : Except Int ByteArray → Int
 | .ok _ => 0
 | .error e => e
def outX : Except Int ByteArray → PV ⊕ Value
 | .ok _ => .inl (.tup [])
 | .error e => .inr (wrongW e)
theorem outX_or (r : Except Int ByteArray) : (outX r = .inl (.tup []) ∧ exE r = 0) ∨ outX r = .inr (wrongW (exE r)) := by
 cases r with
 | ok s => exact .inl ⟨rfl, rfl⟩
 | error e => exact .inr rfl
def nmD (p : Pg) (g : List Gv) (l : List Lc) : D := .agg [.sl (p.globals.map Tr.d), .sl (p.procs.map Pc.d), .map (gvs g), locD l]
theorem x76 (p : Pg) (gs : List Gv) (l : List Lc) (op : Int) (nm : ByteArray) (num : Int) (ks : List Tr) (r : Except Int ByteArray) (q : Px Try.prog 33 [nmD p gs l, .agg [.int .i64 op, .str nm, .int .i64 num, .sl (ks.map Tr.d)]] (outT r)) :
 Xm Try.prog 32 [.d (.ptr (nmD p gs l)), .d (.ptr (.agg [.int .i64 op, .str nm, .int .i64 num, .sl (ks.map Tr.d)])), .ref 0 0] [[.d (.str ⟨#[]⟩)]] (outX r) [[.d (.str (okS r))]] := by
 unfold nmD at *
 cases r with
 | ok s =>
  dsimp only [outT] at q
  refine xmB 1 Try.func32 Try.ntmps32 Try.results32 (fun S0 O0 w0 m0 hm0 => ?_)
  repeat' first | refine st (by exact rfl) ?_ | fail
  refine Z52 ?_
  repeat' first | refine st (by exact rfl) ?_ | fail
  exact enxm (by exact rfl) rfl (msame rfl)
 | error e =>
  dsimp only [outT] at q
  refine xmB 1 Try.func32 Try.ntmps32 Try.results32 (fun S0 O0 w0 m0 hm0 => ?_)
  repeat' first | refine st (by exact rfl) ?_ | fail
  refine Z57 ?_
  repeat' first | refine st (by exact rfl) ?_ | fail
  exact gPanM rfl (msame rfl) (Nat.le_refl _)
theorem x79 (p : Pg) (gs : List Gv) (l : List Lc) (op : Int) (nm : ByteArray) (num : Int) (ks : List Tr) (r : Except Int ByteArray) (q : Px Try.prog 36 [nmD p gs l, .agg [.int .i64 op, .str nm, .int .i64 num, .sl (ks.map Tr.d)], .bool false] (outT r)) :
 Xm Try.prog 35 [.d (.ptr (nmD p gs l)), .d (.ptr (.agg [.int .i64 op, .str nm, .int .i64 num, .sl (ks.map Tr.d)])), .ref 0 0] [[.d (.str ⟨#[]⟩)]] (outX r) [[.d (.str (okS r))]] := by
 unfold nmD at *
 cases r with
 | ok s =>
  dsimp only [outT] at q
  refine xmB 1 Try.func35 Try.ntmps35 Try.results35 (fun S0 O0 w0 m0 hm0 => ?_)
  repeat' first | refine st (by exact rfl) ?_ | fail
  refine Z52 ?_
  repeat' first | refine st (by exact rfl) ?_ | fail
  exact enxm (by exact rfl) rfl (msame rfl)
 | error e =>
  dsimp only [outT] at q
  refine xmB 1 Try.func35 Try.ntmps35 Try.results35 (fun S0 O0 w0 m0 hm0 => ?_)
  repeat' first | refine st (by exact rfl) ?_ | fail
  refine Z57 ?_
  repeat' first | refine st (by exact rfl) ?_ | fail
  exact gPanM rfl (msame rfl) (Nat.le_refl _)
def gK (g : List Gv) : List D := g.map fun x => .str x.nm
def gV (g : List Gv) : List PV := g.map fun x => .d x.d
theorem gK_key (a b : ByteArray) : D.keyQ (.str a) (.str b) = decide (a = b) := by
 by_cases h : a = b
 · subst h; simp [D.keyQ, D.leafQ]
 · simp [D.keyQ, D.leafQ, h]
theorem hasK_g (g : List Gv) (s : ByteArray) : hasK (.str s) (gK g) = hasG g s := by
 unfold gK hasG
 induction g with
 | nil => rfl
 | cons x r ih =>
  rw [List.map_cons, hasK, gK_key, List.any_cons, ih]
  cases decide (x.nm = s) <;> rfl
theorem lookP_g (g : List Gv) (s : ByteArray) (z : PV) : lookP (.str s) z (gK g) (gV g) = match findG' g s with | some x => .d x.d | none => z := by
 unfold gK gV findG'
 induction g with
 | nil => rfl
 | cons x r ih =>
  rw [List.map_cons, List.map_cons, lookP, gK_key, List.find?_cons, ih]
  cases decide (x.nm = s) <;> rfl
variable {g : List Gv} {x : Gv}
theorem lkK_some {s : ByteArray} {z : PV} (h : findG' g s = some x) : lkK true (.str s) z (gK g) (gV g) = some (.tup [.d x.d, .d (.bool true)]) := by
 unfold lkK
 rw [frc_eq, hasK_g, hasG_find, lookP_g, h]
 rfl
theorem lkK_none {s : ByteArray} {z : PV} (h : findG' g s = none) : lkK true (.str s) z (gK g) (gV g) = some (.tup [z, .d (.bool false)]) := by
 unfold lkK
 rw [frc_eq, hasK_g, hasG_find, lookP_g, h]
 rfl
theorem g_toDs (g : List Gv) : PV.toDs (gV g) = some (g.map Gv.d) := by
 unfold gV
 induction g with
 | nil => rfl
 | cons x r ih => rw [List.map_cons, PV.toDs, PV.toD, ih]; rfl
theorem g_zip (g : List Gv) : (gK g).zip (g.map Gv.d) = gvs g := by
 unfold gK gvs
 induction g with
 | nil => rfl
 | cons x r ih => rw [List.map_cons, List.map_cons, List.map_cons, List.zip_cons_cons, ih]
theorem g_len (g : List Gv) : (gV g).length = (gK g).length := by simp [gV, gK]
theorem g_keys (h : ∀ x ∈ g, x.nm.size ≤ 140737488355328) : (gK g).all strB = true := by
 rw [List.all_eq_true]
 intro x hx
 obtain ⟨y, hy, rfl⟩ := List.mem_map.1 hx
 exact Nat.ble_eq_true_of_le (h y hy)
theorem g_noF : ∀ k ∈ gK g, k ≠ .nilF := fun k hk => by
 obtain ⟨y, _, rfl⟩ := List.mem_map.1 hk
 intro h; cases h
theorem g_noowns (g : List Gv) : PV.noowns (gV g) = true := by
 unfold gV
 induction g with
 | nil => rfl
 | cons x r ih => rw [List.map_cons, PV.noowns, ih]; rfl
theorem g_refs (n : Nat) (g : List Gv) : PV.refsBs n (gV g) = true := by
 unfold gV
 induction g with
 | nil => rfl
 | cons x r ih => rw [List.map_cons, PV.refsBs, ih]; rfl
theorem g_rens (f : Nat → Nat) (g : List Gv) : PV.rens f (gV g) = gV g := by
 unfold gV
 induction g with
 | nil => rfl
 | cons x r ih => rw [List.map_cons, PV.rens, ih]; rfl
theorem mpc_noowns (g : List Gv) : PV.noowns (mpc (gK g) (gV g)) = true := by
 unfold mpc
 rw [PV.noowns, g_noowns]; rfl
theorem mpc_refs (n : Nat) (g : List Gv) : PV.refsBs n (mpc (gK g) (gV g)) = true := by
 unfold mpc
 rw [PV.refsBs, g_refs]; rfl
theorem mpc_rens (f : Nat → Nat) (g : List Gv) : PV.rens f (mpc (gK g) (gV g)) = mpc (gK g) (gV g) := by
 unfold mpc
 rw [PV.rens, g_rens]; rfl
theorem csame {n : Nat} : ∀ {cs : List PV}, PV.refsBs n cs = true → CSub n cs cs
 | [], _ => .nil
 | p :: r, h => by
  rw [PV.refsBs, Bool.and_eq_true] at h
  exact .cons (.inl rfl) h.1 (csame h.2)
theorem mleG {k : Nat} {c : List PV} {rest : List (List PV)} (h : PV.refsBs k c = true) : MSub k (mpc (gK g) (gV g) :: c :: rest) [mpc (gK g) (gV g), c] := .cons (csame (mpc_refs k g)) (.cons (csame h) .nil)
theorem mpc_put (h : hasG g x.nm = false) : mpc (putKs (gK g) (.str x.nm)) (putVs (gK g) (.str x.nm) (gV g) (.d x.d)) = mpc (gK (g ++ [x])) (gV (g ++ [x])) := by
 unfold putKs putVs
 rw [hasK_g, h]
 simp [gK, gV]
theorem declT_sz {n : Nm} (hb : n.Bd) {v : Tr} {t : ByteArray} (h : declT n v = .ok t) : t.size ≤ 1000000 := by
 have ht : ∀ k u, typeT n k false = .ok u → u.size ≤ 1000000 := fun k u hu => typeT_sz k.size k (Nat.le_refl _) (hb.u k) false u hu
 have hz : ∀ num t0 r t, t0.size ≤ 1000000 → declZ n num t0 r = .ok t → t.size ≤ 1000000 := fun num t0 r t h0 h => by
  by_cases h2 : (andI num 2 == 0) = true
  · rw [declZ_no h2] at h
    split at h
    · injection h with h; subst h; exact h0
    · cases h
  · cases r with
    | nil =>
     rw [show declZ n num t0 [] = .error 13 from by unfold declZ; exact if_neg h2] at h
     cases h
    | cons k r =>
     rw [declZ_k h2] at h
     cases hk : typeT n k false with
     | error e' => rw [hk] at h; cases h
     | ok u =>
      rw [hk] at h
      simp only [Except.bind] at h
      split at h
      · injection h with h; subst h; exact ht k _ hk
      · cases h
 have ha : ∀ x t, declA n x = .ok t → t.size ≤ 1000000 := fun x t h => by
  obtain ⟨xop, xnm, xnu, xks⟩ := x
  by_cases h31 : xop = 31
  · cases xks with
    | nil =>
     subst h31
     rw [show declA n (.mk 31 xnm xnu []) = .error 13 from rfl] at h
     cases h
    | cons k s =>
     rw [declA_arr h31 rfl] at h
     cases hkt : typeT n k false with
     | error e' => rw [hkt] at h; cases h
     | ok u =>
      rw [hkt] at h
      simp only [Except.bind] at h
      split at h
      · rename_i hd
        injection h with h; subst h
        rw [ByteArray.size_append, ByteArray.size_extract, dom_sz hd]
        decide
      · cases h
  · rw [show declA n (.mk xop xnm xnu xks) = if basicB xnm = true then (if isArrB xnm = true then .error 13 else .ok xnm) else .error 153 from by unfold declA; exact if_neg h31] at h
    split at h
    · rename_i hba
      split at h
      · cases h
      · injection h with h; subst h
        unfold basicB at hba
        simp only [Bool.or_eq_true, decide_eq_true_eq] at hba
        rcases hba with h | h | h | h | h | h | h | h | h | h <;> subst h <;> decide
    · cases h
 obtain ⟨op, nm, num, ks⟩ := v
 rw [show declT n (.mk op nm num ks) = if (andI num 8 == 0) = true then (if (andI num 1 != 0) = true then declK n num ks else declZ n num ⟨#[]⟩ ks) else .error 153 from rfl] at h
 split at h
 · split at h
   · cases ks with
     | nil => rw [show declK n num [] = .error 13 from rfl] at h; cases h
     | cons x r =>
      rw [show declK n num (x :: r) = (declA n x).bind fun t => declZ n num t r from rfl] at h
      cases hx : declA n x with
      | error e' => rw [hx] at h; cases h
      | ok t0 => rw [hx] at h; exact hz _ _ _ _ (ha x _ hx) h
   · exact hz _ _ _ _ (by decide) h
 · cases h
theorem globC_drop (p : Pg) (acc : List Gv) {l : List Tr} {z : Nat} {g : Tr} (h : l[z]? = some g) : globC p acc (l.drop z) = if (hasG acc g.nm || gskip g) = true then globC p acc (l.drop (z + 1)) else match declT ⟨p, acc, []⟩ g with
 | .ok t => globC p (acc ++ [⟨g.nm, t, andI g.nu 4 != 0⟩]) (l.drop (z + 1))
 | .error _ => globC p acc (l.drop (z + 1)) := by
 obtain ⟨hz, hk'⟩ := List.getElem?_eq_some_iff.1 h
 rw [List.drop_eq_getElem_cons hz, hk', globC]
 rfl
def tyC (p : Pg) (e : Tr) (ls : List Gv) : Except Int ByteArray := if (nodeE e != 0) = true then .error (nodeE e) else if (!isExprB e.op) = true then .error 2 else typeT ⟨p, globC p [] p.globals, (ls.map toLc).reverse⟩ e false
structure AccOk (acc : List Gv) (z : Nat) : Prop where
 l : acc.length ≤ z
 n : ∀ x ∈ acc, x.nm.size ≤ 140737488355328
 t : ∀ x ∈ acc, x.ty.size ≤ 1000000
theorem take_loc {ls : List Gv} {z : Nat} (h : ls[z]? = some x) : ((ls.take (z + 1)).map toLc).reverse = toLc x :: ((ls.take z).map toLc).reverse := by
 rw [List.take_add_one, h]
 simp
theorem le_bor {K : Ctx} (hk : K.m0.length = 0) (p : Pg) (acc : List Gv) (g : Tr) :
 Le K ⟨[(58, .fn (.func 32) [] [.ref 1 0, .ref 2 0, .ref 4 0]), (14, .ref 4 0)], [mpc (gK acc) (gV acc), [.d (.sl (p.globals.map Tr.d)), .d (.sl (p.procs.map Pc.d)), .mref 0, .d .nil], [.d (.int .i64 g.op), .d (.str g.nm), .d (.int .i64 g.nu), .d (.sl (g.kids.map Tr.d))], [.d (.str ⟨#[]⟩), .d (.str ⟨#[]⟩), .d (.bool false)], [.d (.str ⟨#[]⟩)]]⟩ ⟨[(58, .fn (.func 32) [] [.d (.ptr (nmD p acc [])), .d (.ptr (.agg [.int .i64 g.op, .str g.nm, .int .i64 g.nu, .sl (g.kids.map Tr.d)])), .ref 0 0]), (14, .ref 0 0)], [[.d (.str ⟨#[]⟩)]]⟩ := by
 refine Le.trans (Le_swap 4 (mem' := [[.d (.str ⟨#[]⟩)], [.d (.sl (p.globals.map Tr.d)), .d (.sl (p.procs.map Pc.d)), .mref 4, .d .nil], [.d (.int .i64 g.op), .d (.str g.nm), .d (.int .i64 g.nu), .d (.sl (g.kids.map Tr.d))], [.d (.str ⟨#[]⟩), .d (.str ⟨#[]⟩), .d (.bool false)], mpc (gK acc) (gV acc)]) hk (by show 4 < 5; decide) rfl (by simp only [List.all_cons, mpc_noowns]; rfl) (fun i cs h => ?_)) ?_
 · rcases i with _ | _ | _ | _ | _ | i
   · simp at h; subst h; exact ⟨_, rfl, rfl⟩
   · simp at h; subst h; exact ⟨_, rfl, rfl⟩
   · simp at h; subst h; exact ⟨_, rfl, rfl⟩
   · simp at h; subst h; exact ⟨_, rfl, rfl⟩
   · simp at h; subst h; exact ⟨_, rfl, (mpc_rens _ _).symm⟩
   · simp at h
 refine Le.trans (leFm 4 (keep := [[.d (.str ⟨#[]⟩)], [.d (.sl (p.globals.map Tr.d)), .d (.sl (p.procs.map Pc.d)), .mref 4, .d .nil], [.d (.int .i64 g.op), .d (.str g.nm), .d (.int .i64 g.nu), .d (.sl (g.kids.map Tr.d))], [.d (.str ⟨#[]⟩), .d (.str ⟨#[]⟩), .d (.bool false)]]) rfl rfl (g_toDs acc) (g_len acc) g_noF (g_zip acc) (by omega) (s' := ⟨[(58, .fn (.func 32) [] [.ref 1 0, .ref 2 0, .ref 0 0]), (14, .ref 0 0)], [[.d (.str ⟨#[]⟩)], [.d (.sl (p.globals.map Tr.d)), .d (.sl (p.procs.map Pc.d)), .d (.map (gvs acc)), .d .nil], [.d (.int .i64 g.op), .d (.str g.nm), .d (.int .i64 g.nu), .d (.sl (g.kids.map Tr.d))], [.d (.str ⟨#[]⟩), .d (.str ⟨#[]⟩), .d (.bool false)]]⟩) rfl) ?_
 refine Le.trans (leFz (n := 3) true (by exact rfl) (by omega) (by rfl)) ?_
 refine Le.trans (leFz (n := 2) true (by exact rfl) (by omega) (by rfl)) ?_
 exact leFz (n := 1) true (by exact rfl) (by omega) (by rfl)
theorem le_map {K : Ctx} (hk : K.m0.length = 0) (p : Pg) (acc : List Gv) (x y : D) :
 Le K ⟨[(2, .d x), (4, .d y), (9, .ref 1 0)], [mpc (gK acc) (gV acc), [.d (.sl (p.globals.map Tr.d)), .d (.sl (p.procs.map Pc.d)), .mref 0, .d .nil]]⟩ ⟨[(2, .d x), (4, .d y), (9, .ref 0 0)], [[.d (.sl (p.globals.map Tr.d)), .d (.sl (p.procs.map Pc.d)), .d (.map (gvs acc)), .d .nil]]⟩ := by
 refine Le.trans (Le_swap 1 (mem' := [[.d (.sl (p.globals.map Tr.d)), .d (.sl (p.procs.map Pc.d)), .mref 1, .d .nil], mpc (gK acc) (gV acc)]) hk (by show 1 < 2; decide) rfl (by simp only [List.all_cons, mpc_noowns]; rfl) (fun i cs h => ?_)) ?_
 · rcases i with _ | _ | i
   · simp at h; subst h; exact ⟨_, rfl, rfl⟩
   · simp at h; subst h; exact ⟨_, rfl, (mpc_rens _ _).symm⟩
   · simp at h
 exact leFm 1 (keep := [[.d (.sl (p.globals.map Tr.d)), .d (.sl (p.procs.map Pc.d)), .mref 1, .d .nil]]) rfl rfl (g_toDs acc) (g_len acc) g_noF (g_zip acc) (by omega) rfl
theorem mleB (acc : List Gv) {k : Nat} {rest : List (List PV)} (h : rest.all (PV.refsBs k) = true) : MSub k (mpc (gK acc) (gV acc) :: rest) (mpc (gK acc) (gV acc) :: rest) := .cons (csame (mpc_refs k acc)) (msame h)
def globJ (p : Pg) (acc : List Gv) (z : Nat) : Prop := globC p [] p.globals = globC p acc (p.globals.drop z) ∧ AccOk acc z
set_option maxHeartbeats 8000000 in
theorem c18 (p : Pg) (hp : p.Ok) (hl : p.globals.length ≤ 1000000) (hM : ∀ g ∈ p.globals, g.size ≤ 1000000) (hR : ∀ q ∈ p.procs, q.result.nm.size ≤ 1000000) (e : Tr) (hok : e.Ok) (hes : e.size ≤ 1000000) (ls : List Gv) (hls : ls.length ≤ 1000000)
 (hU : nodeE e = 0 → isExprB e.op = true → ∀ s, e.emp s = true → ∀ x, lookN ⟨p, globC p [] p.globals, (ls.map toLc).reverse⟩ s = some x → x.ty.size ≤ 1000000) : Pf Try.prog 10 [p.d, e.d, .sl (ls.map Gv.d)] (outR (tyC p e ls)) := by
 have q24 := c24 e hok (by omega)
 have hex := fun (n : Nm) (h0 : n.Ok) (hb : UBd n e) (h1 : e.shaped = true) (h2 : isExprB e.op = true) => c80n n h0 e.size e (Nat.le_refl _) hb hok hes h1 h2 false
 unfold Pg.d
 unfold tyC
 have hns := @nodeE_sh e
 generalize nodeE e = ne at *
 rw [t_eta e] at q24 hex ⊢
 refine pfb Try.func10 Try.ntmps10 Try.results10 (fun S0 O0 w0 m0 hm0 => ?_)
 repeat' first | refine st (by exact rfl) ?_ | fail
 refine Z17 ?_;refine Z17 ?_
 refine cl (by exact rfl) q24 ?_
 repeat' first | refine st (by exact rfl) ?_ | fail
 by_cases h1 : (ne != 0) = true
 · rw [if_pos h1]
   refine ct (by exact rfl) ?_ h1
   repeat' first | refine st (by exact rfl) ?_ | fail
   exact Y0
 rw [if_neg h1]
 refine cf (by exact rfl) ?_ (eq_false_of_ne_true h1)
 repeat' first | refine st (by exact rfl) ?_ | refine cl (by exact rfl) (c74 e.op) ?_ | fail
 by_cases h2 : (!isExprB e.op) = true
 · rw [if_pos h2]
   refine ct (by exact rfl) ?_ h2
   repeat' first | refine st (by exact rfl) ?_ | fail
   exact Y0
 rw [if_neg h2]
 refine cf (by exact rfl) ?_ (eq_false_of_ne_true h2)
 repeat' first | refine st (by exact rfl) ?_ | fail
 have hlen : (p.globals.map Tr.d).length = p.globals.length := List.length_map ..
 refine gLo (fun y : List Gv × Nat => ⟨[(2, .d (.sl (ls.map Gv.d))), (4, .d (.ptr (.agg [.int .i64 e.op, .str e.nm, .int .i64 e.nu, .sl (e.kids.map Tr.d)]))), (9, .ref 1 0), (33, .d (.sl (p.globals.map Tr.d))), (34, .d (.int .i64 ((p.globals.map Tr.d).length : Int))), (35, .d (.int .i64 (y.2 : Int)))], [mpc (gK y.1) (gV y.1), [.d (.sl (p.globals.map Tr.d)), .d (.sl (p.procs.map Pc.d)), .mref 0, .d .nil]]⟩) (fun y => p.globals.length - y.2) (fun y => globJ p y.1 y.2) ([], 0) ⟨rfl, Nat.le_refl _, (fun x hx => by cases hx), (fun x hx => by cases hx)⟩ (le_of (hm := mleG (g := []) rfl)) (fun y hy Q' hn he hr hp' => ?_)
 obtain ⟨acc, z⟩ := y
 obtain ⟨hg, hal, han, hat⟩ := hy
 dsimp only at hg hal
 repeat' first | refine st (by exact rfl) ?_ | fail
 refine cd (by exact rfl) (fun hb => ?_) (fun hb => ?_)
 · have hz : z < p.globals.length := by have := oR hb; omega
   obtain ⟨g, hgz⟩ : ∃ g, p.globals[z]? = some g := ⟨_, gE hz⟩
   have hmem := mG hgz
   have hgok := hp.g.2 g hmem
   have hgsz := hM g hmem
   have q24g := c24 g hgok (by omega)
   have hgd := globC_drop p acc hgz
   have hxd := Tr.ds_get hgz
   have hnok : Nm.Ok ⟨p, acc, []⟩ := ⟨hp, han⟩
   have hnbd : Nm.Bd ⟨p, acc, []⟩ := ⟨(fun x hx => by cases hx), hat, hR⟩
   have hdec := c77n ⟨p, acc, []⟩ hnok hnbd g hgok hgsz
   have hgnm : g.nm.size ≤ 140737488355328 := by cases hgok with | mk o1 o2 o3 o4 o5 => exact o2
   rw [t_eta g] at q24g hxd hdec
   repeat' first | refine st (by exact rfl) ?_ | fail
   refine el (by exact rfl) hxd ?_ (by omega)
   repeat' first | refine st (by exact rfl) ?_ | fail
   cases hf : findG' acc g.nm with
   | some x =>
    have hh : hasG acc g.nm = true := by rw [hasG_find, hf]; rfl
    rw [hh, Bool.true_or, if_pos rfl] at hgd
    refine lo C9 (hr := lkK_some hf) (hl := g_len acc) (hks := g_keys han) (hk := Nat.ble_eq_true_of_le hgnm) (hno := g_noowns acc) (hg := ?_)
    dsimp only [Gv.d]
    repeat' first | refine st (by exact rfl) ?_ | refine clg (by exact rfl) (fun _ => q24g) ?_ | fail
    refine ct (by exact rfl) ?_ rfl
    repeat' first | refine st (by exact rfl) ?_ | fail
    rw [wrap_succ (by omega)]
    exact Y2
   | none =>
    have hh : hasG acc g.nm = false := by rw [hasG_find, hf]; rfl
    rw [hh, Bool.false_or] at hgd
    refine lo C9 (hr := lkK_none hf) (hl := g_len acc) (hks := g_keys han) (hk := Nat.ble_eq_true_of_le hgnm) (hno := g_noowns acc) (hg := ?_)
    repeat' first | refine st (by exact rfl) ?_ | refine clg (by exact rfl) (fun _ => q24g) ?_ | fail
    by_cases hs : gskip g = true
    · rw [if_pos hs] at hgd
      refine ct (by exact rfl) ?_ hs
      repeat' first | refine st (by exact rfl) ?_ | fail
      rw [wrap_succ (by omega)]
      exact Y2
    · rw [if_neg hs] at hgd
      obtain ⟨h50, _, hsh⟩ := gskip_no (eq_false_of_ne_true hs)
      have q := hdec hsh h50
      generalize hdt : declT ⟨p, acc, []⟩ g = r at *
      have x1 := x76 p acc [] g.op g.nm g.nu g.kids r q
      have x2 := c75 32 (.ptr (nmD p acc [])) (.ptr (.agg [.int .i64 g.op, .str g.nm, .int .i64 g.nu, .sl (g.kids.map Tr.d)])) (.str ⟨#[]⟩) (.str (okS r)) (outX r) (exE r) (outX_or r) x1
      refine cf (by exact rfl) ?_ (eq_false_of_ne_true hs)
      repeat' first | refine st (by exact rfl) ?_ | fail
      refine gLe (s' := ⟨[(58, .fn (.func 32) [] [.ref 1 0, .ref 2 0, .ref 4 0]), (14, .ref 4 0), (11, .ref 2 0)] ++ [(2, .d (.sl (ls.map Gv.d))), (4, .d (.ptr (.agg [.int .i64 e.op, .str e.nm, .int .i64 e.nu, .sl (e.kids.map Tr.d)]))), (9, .ref 1 0), (33, .d (.sl (p.globals.map Tr.d))), (34, .d (.int .i64 ((p.globals.map Tr.d).length : Int))), (35, .d (.int .i64 (z : Int)))], [mpc (gK acc) (gV acc), [.d (.sl (p.globals.map Tr.d)), .d (.sl (p.procs.map Pc.d)), .mref 0, .d .nil], [.d (.int .i64 g.op), .d (.str g.nm), .d (.int .i64 g.nu), .d (.sl (g.kids.map Tr.d))], [.d (.str ⟨#[]⟩), .d (.str ⟨#[]⟩), .d (.bool false)], [.d (.str ⟨#[]⟩)]]⟩) (le_of (hm := mleB acc rfl)) ?_ rfl
      refine gBor 14 4 (b := .str ⟨#[]⟩) (b' := .str (okS r)) (r := wrongD (exE r)) (sl1 := [(58, .fn (.func 32) [] [.d (.ptr (nmD p acc [])), .d (.ptr (.agg [.int .i64 g.op, .str g.nm, .int .i64 g.nu, .sl (g.kids.map Tr.d)])), .ref 0 0]), (14, .ref 0 0)]) (Le.trans (le_of (s' := ⟨[(58, .fn (.func 32) [] [.ref 1 0, .ref 2 0, .ref 4 0]), (14, .ref 4 0)], [mpc (gK acc) (gV acc), [.d (.sl (p.globals.map Tr.d)), .d (.sl (p.procs.map Pc.d)), .mref 0, .d .nil], [.d (.int .i64 g.op), .d (.str g.nm), .d (.int .i64 g.nu), .d (.sl (g.kids.map Tr.d))], [.d (.str ⟨#[]⟩), .d (.str ⟨#[]⟩), .d (.bool false)], [.d (.str ⟨#[]⟩)]]⟩) (hm := mleB acc rfl)) (le_bor hm0 p acc g)) rfl rfl rfl rfl rfl rfl (by exact rfl) x2 rfl ?_
      simp only [List.set_cons_succ, List.set_cons_zero, List.cons_append, List.nil_append]
      cases r with
      | error x =>
       have hne := declT_err hdt
       dsimp only [wrongD, exE, okS] at hgd ⊢
       repeat' first | refine st (by exact rfl) ?_ | fail
       refine cf (by exact rfl) ?_ (by simpa using hne)
       repeat' first | refine st (by exact rfl) ?_ | fail
       rw [wrap_succ (by omega)]
       exact Y2
      | ok t =>
       have htz := declT_sz hnbd hdt
       dsimp only [wrongD, exE, okS] at hgd ⊢
       repeat' first | refine st (by exact rfl) ?_ | fail
       refine ct (by exact rfl) ?_ rfl
       repeat' first | refine st (by exact rfl) ?_ | fail
       refine oh 10 (mpc (gK (acc ++ [⟨g.nm, t, andI g.nu 4 != 0⟩])) (gV (acc ++ [⟨g.nm, t, andI g.nu 4 != 0⟩]))) (hc := ?_)
       iterate 8 refine ovh (hc := ?_)
       refine och (hcl := c78 g.op g.nm g.nu g.kids) (hc := ?_)
       refine ovh (hc := ?_)
       refine ofh C9 (g_keys han) (show strB (.str g.nm) = true from Nat.ble_eq_true_of_le hgnm) (g_len acc) (mpc_put (x := ⟨g.nm, t, andI g.nu 4 != 0⟩) hh) (hc := ?_)
       refine oeh (hc := ?_)
       repeat' first | refine st (by exact rfl) ?_ | fail
       rw [wrap_succ (by omega)]
       refine toL (hn _ (acc ++ [⟨g.nm, t, andI g.nu 4 != 0⟩], z + 1) ⟨hg.trans hgd, by dsimp only; rw [List.length_append]; simp; omega, fun x hx => ?_, fun x hx => ?_⟩ (by dsimp only; omega) (le_of (hm := mleG rfl)))
       · rcases List.mem_append.1 hx with hx | hx
         · exact han x hx
         · simp only [List.mem_cons, List.not_mem_nil, or_false] at hx; subst hx; exact hgnm
       · rcases List.mem_append.1 hx with hx | hx
         · exact hat x hx
         · simp only [List.mem_cons, List.not_mem_nil, or_false] at hx; subst hx; exact htz
 · have hz : p.globals.length ≤ z := by have := of_decide_eq_false hb; omega
   rw [List.drop_eq_nil_of_le hz, globC] at hg
   rw [hg] at hU
   repeat' first | refine st (by exact rfl) ?_ | fail
   refine Z45 ?_
   rw [hg]
   repeat' (fail_if_success with_reducible refine ar 17 ?_); first | refine st (by exact rfl) ?_ | fail
   refine gLe (Le.trans (le_of (s' := ⟨[(2, .d (.sl (ls.map Gv.d))), (4, .d (.ptr (.agg [.int .i64 e.op, .str e.nm, .int .i64 e.nu, .sl (e.kids.map Tr.d)]))), (9, .ref 1 0)], [mpc (gK acc) (gV acc), [.d (.sl (p.globals.map Tr.d)), .d (.sl (p.procs.map Pc.d)), .mref 0, .d .nil]]⟩) (hm := mleG rfl)) (le_map hm0 p acc _ _)) ?_ rfl
   repeat' first | refine st (by exact rfl) ?_ | fail
   have hll : (ls.map Gv.d).length = ls.length := List.length_map ..
   refine gLo (fun y : List Lc × Nat => ⟨[(4, .d (.ptr (.agg [.int .i64 e.op, .str e.nm, .int .i64 e.nu, .sl (e.kids.map Tr.d)]))), (9, .ref 0 0), (74, .d (.sl (ls.map Gv.d))), (75, .d (.int .i64 ((ls.map Gv.d).length : Int))), (76, .d (.int .i64 (y.2 : Int)))], [[.d (.sl (p.globals.map Tr.d)), .d (.sl (p.procs.map Pc.d)), .d (.map (gvs acc)), .d (locD y.1)]]⟩) (fun y => ls.length - y.2) (fun y => y.2 ≤ ls.length ∧ y.1 = ((ls.take y.2).map toLc).reverse) ([], 0) ⟨Nat.zero_le _, rfl⟩ le_of (fun y hy Q2 hn2 he2 hr2 hp2 => ?_)
   obtain ⟨l, k⟩ := y
   obtain ⟨hkl, hl2⟩ := hy
   dsimp only at hkl hl2
   repeat' first | refine st (by exact rfl) ?_ | fail
   refine cd (by exact rfl) (fun hb2 => ?_) (fun hb2 => ?_)
   · have hk : k < ls.length := by have := oR hb2; omega
     obtain ⟨x, hx⟩ : ∃ x, ls[k]? = some x := ⟨_, gE hk⟩
     repeat' first | refine st (by exact rfl) ?_ | fail
     refine el (by exact rfl) (gv_get hx) ?_ (by omega)
     have hs2 : toLc x :: l = ((ls.take (k + 1)).map toLc).reverse := by rw [hl2, take_loc hx]
     rcases l with _ | ⟨v, l⟩
     all_goals dsimp only [locD]
     all_goals repeat' first | refine fz true (s := ⟨_, [_, _, _]⟩) (by exact rfl) ?_ | refine st (by exact rfl) ?_ | fail
     all_goals rw [wrap_succ (by omega)]
     · exact toL (hn2 _ ([toLc x], k + 1) ⟨hk, hs2⟩ (by dsimp only; omega) le_of)
     · exact toL (hn2 _ (toLc x :: v :: l, k + 1) ⟨hk, hs2⟩ (by dsimp only; omega) le_of)
   · have hk : k = ls.length := by have := of_decide_eq_false hb2; omega
     subst hk
     rw [List.take_length] at hl2
     subst hl2
     repeat' first | refine st (by exact rfl) ?_ | fail
     refine toL (he2 _ _ ?_)
     repeat' (fail_if_success with_reducible refine ar 22 ?_); first | refine st (by exact rfl) ?_ | fail
     refine Z17 ?_
     have q := hex ⟨p, acc, (ls.map toLc).reverse⟩ ⟨hp, han⟩ ⟨hU (by simpa using h1) (by simpa using h2), hR⟩ (hns (by simpa using h1)) (by simpa using h2)
     generalize hrt : typeT ⟨p, acc, (ls.map toLc).reverse⟩ e false = r at *
     have x1 := x79 p acc (ls.map toLc).reverse e.op e.nm e.nu e.kids r q
     have x2 := c75 35 (.ptr (nmD p acc (ls.map toLc).reverse)) (.ptr (.agg [.int .i64 e.op, .str e.nm, .int .i64 e.nu, .sl (e.kids.map Tr.d)])) (.str ⟨#[]⟩) (.str (okS r)) (outX r) (exE r) (outX_or r) x1
     repeat' first | refine st (by exact rfl) ?_ | fail
     refine cm (by exact rfl) x2 ?_
     cases r with
     | error x =>
      have hne := typeT_err e.size e (Nat.le_refl _) false x hrt
      dsimp only [wrongD, exE, okS]
      repeat' first | refine st (by exact rfl) ?_ | fail
      refine ct (by exact rfl) ?_ (by simpa using hne)
      repeat' first | refine st (by exact rfl) ?_ | fail
      refine Z20 ?_
      iterate 4 refine ov (hc := ?_)
      refine Z21 ?_
      repeat' first | refine st (by exact rfl) ?_ | fail
      exact Y0
     | ok t =>
      dsimp only [wrongD, exE, okS]
      repeat' first | refine st (by exact rfl) ?_ | fail
      refine cf (by exact rfl) ?_ rfl
      repeat' first | refine st (by exact rfl) ?_ | fail
      exact Y0
end
section
def Tr.longN (t : Tr) (m : Int) : Bool := decide (t.cnt m > m) || t.long
theorem c15 (t : Tr) (hok : t.Ok) (m : Int) (h0 : 0 ≤ m) (h1 : m ≤ 1000000) : Pf Try.prog 6 [t.d, .int .i64 m] (.d (.bool (t.longN m))) := by
 have q21 := c21n t.size t (Nat.le_refl _) hok m h0 h1
 have q68 := c68n t.size t (Nat.le_refl _) hok
 unfold Tr.longN
 generalize t.cnt m = c at *
 generalize t.long = lo at *
 obtain ⟨op, name, num, ks⟩ := t
 rw [Tr.d_mk] at *
 refine pfb Try.func6 Try.ntmps6 Try.results6 (fun S0 O0 w0 m0 hm0 => ?_)
 repeat' first | refine st (by exact rfl) ?_ | fail
 refine cl (by exact rfl) q21 ?_
 repeat' first | refine st (by exact rfl) ?_ | fail
 refine clg (by exact rfl) (fun _ => q68) ?_
 repeat' first | refine st (by exact rfl) ?_ | fail
 exact Y0
end
section
def lstK (k : Nat) : List D → PV
 | [] => .nils
 | x :: r => .osl k (x :: r)
set_option maxHeartbeats 4000000 in
theorem c19 (ls : List Gv) (hl : ls.length ≤ 1000000) : Pf Try.prog 9 [.sl (ls.map Gv.d)] (.d (.sl (ls.map Gv.d))) := by
 refine pfb Try.func9 Try.ntmps9 Try.results9 (fun S0 O0 w0 m0 hm0 => ?_)
 repeat' first | refine st (by exact rfl) ?_ | fail
 have hlen : (ls.map Gv.d).length = ls.length := List.length_map ..
 refine gLo (fun y : List D × Nat => ⟨[(3, lstK 3 y.1), (6, .d (.sl (ls.map Gv.d))), (7, .d (.int .i64 ((ls.map Gv.d).length : Int))), (8, .d (.int .i64 (y.2 : Int)))], []⟩) (fun y => ls.length - y.2) (fun y => y.1 = (ls.take y.2).map Gv.d ∧ y.2 ≤ ls.length) ([], 0) ⟨rfl, Nat.zero_le _⟩ le_of (fun y hy Q' hn he hr hp => ?_)
 obtain ⟨xs, z⟩ := y
 obtain ⟨hx, hz⟩ := hy
 dsimp only at hx hz
 have hxl : xs.length = z := by rw [hx, List.length_map, List.length_take]; omega
 have hstep : ∀ x, ls[z]? = some x → xs ++ [x.d] = (ls.take (z + 1)).map Gv.d := fun x h => by rw [hx, List.take_add_one, h]; simp
 rcases xs with _ | ⟨x0, r0⟩
 all_goals dsimp only [lstK]
 all_goals repeat' first | refine st (by exact rfl) ?_ | fail
 all_goals refine cd (by exact rfl) (fun hb => ?_) (fun hb => ?_)
 · have hlt : z < ls.length := by have := oR hb; omega
   obtain ⟨x, hgx⟩ : ∃ x, ls[z]? = some x := ⟨_, gE hlt⟩
   repeat' first | refine st (by exact rfl) ?_ | fail
   refine el (by exact rfl) (gv_get hgx) ?_ (by omega)
   repeat' first | refine st (by exact rfl) ?_ | refine bs (by exact rfl) ?_ | refine ap (by exact rfl) ?_ | fail
   rw [wrap_succ (by omega)]
   exact Y16
 · have hlt : ls.length ≤ z := by have := of_decide_eq_false hb; omega
   rw [List.take_of_length_le hlt] at hx
   repeat' first | refine st (by exact rfl) ?_ | fail
   refine Z45 ?_
   repeat' first | refine st (by exact rfl) ?_ | fail
   exact en (by exact rfl) (by rw [← hx])
 · have hlt : z < ls.length := by have := oR hb; omega
   obtain ⟨x, hgx⟩ : ∃ x, ls[z]? = some x := ⟨_, gE hlt⟩
   simp only [List.length_cons] at hxl
   repeat' first | refine st (by exact rfl) ?_ | fail
   refine el (by exact rfl) (gv_get hgx) ?_ (by omega)
   repeat' first | refine st (by exact rfl) ?_ | refine bs (by exact rfl) ?_ | refine ap (by exact rfl) ?_ | fail
   rw [wrap_succ (by omega)]
   exact Y16
 · have hlt : ls.length ≤ z := by have := of_decide_eq_false hb; omega
   rw [List.take_of_length_le hlt] at hx
   repeat' first | refine st (by exact rfl) ?_ | fail
   refine Z45 ?_
   repeat' first | refine st (by exact rfl) ?_ | fail
   exact en (by exact rfl) (by rw [← hx])
def longG (x : Gv) : Bool := decide ((x.nm.size : Int) > 100) || decide ((x.ty.size : Int) > 100)
theorem c73 (x : Gv) : Pf Try.prog 28 [.agg [.str x.nm, .str x.ty, .bool x.con]] (.d (.bool (longG x))) := by
 refine pfb Try.func28 Try.ntmps28 Try.results28 (fun S0 O0 w0 m0 hm0 => ?_)
 repeat' first | refine st (by exact rfl) ?_ | fail
 exact Y0
theorem c139 (ls : List Gv) (hl : ls.length ≤ 140737488355328) : Pf Try.prog 45 [.sl (ls.map Gv.d), .fn (.func 28) [] []] (.d (.int .i64 (idxL longG ls))) := by
 refine pfb Try.func45 Try.ntmps45 Try.results45 (fun S0 O0 w0 m0 hm0 => ?_)
 repeat' first | refine st (by exact rfl) ?_ | fail
 have hlen : (ls.map Gv.d).length = ls.length := List.length_map ..
 refine gLo (fun z : Nat => ⟨[(0, .d (.sl (ls.map Gv.d))), (1, .d (.fn (.func 28) [] [])), (7, .d (.int .i64 ((ls.map Gv.d).length : Int))), (8, .d (.int .i64 (z : Int)))], []⟩) (fun z => ls.length - z) (fun z => ∀ i, i < z → ∀ y, ls[i]? = some y → longG y = false) 0 (fun i hi => absurd hi (Nat.not_lt_zero _)) le_of (fun z hz Q' hn he hr hp => ?_)
 repeat' first | refine st (by exact rfl) ?_ | fail
 refine cd (by exact rfl) (fun hb => ?_) (fun hb => ?_)
 · have hlt : z < ls.length := by have := oR hb; omega
   obtain ⟨x, hgx⟩ : ∃ x, ls[z]? = some x := ⟨_, gE hlt⟩
   repeat' first | refine st (by exact rfl) ?_ | fail
   refine el (by exact rfl) (gv_get hgx) ?_ (by omega)
   repeat' first | refine st (by exact rfl) ?_ | refine cl (by exact rfl) (c73 x) ?_ | fail
   by_cases hx : longG x = true
   · refine ct (by exact rfl) ?_ hx
     repeat' first | refine st (by exact rfl) ?_ | fail
     refine toL (hr _ ?_)
     repeat' first | refine st (by exact rfl) ?_ | fail
     exact en (by exact rfl) (idxL_found hz hgx hx)
   · refine cf (by exact rfl) ?_ (eq_false_of_ne_true hx)
     repeat' first | refine st (by exact rfl) ?_ | fail
     rw [wrap_succ (by omega)]
     exact Y15
 · have hlt : ls.length ≤ z := by have := of_decide_eq_false hb; omega
   repeat' first | refine st (by exact rfl) ?_ | fail
   refine Z45 ?_
   repeat' first | refine st (by exact rfl) ?_ | fail
   exact en (by exact rfl) (idxL_none fun i hi y hy => hz i (by omega) y hy)
theorem c72 (ls : List Gv) (hl : ls.length ≤ 140737488355328) : Pf Try.prog 27 [.sl (ls.map Gv.d), .fn (.func 28) [] []] (.d (.bool (ls.any longG))) := by
 refine pfb Try.func27 Try.ntmps27 Try.results27 (fun S0 O0 w0 m0 hm0 => ?_)
 repeat' first | refine st (by exact rfl) ?_ | refine cl (by exact rfl) (c139 ls hl) ?_ | fail
 exact en (by exact rfl) (by rw [← idxL_any])
def fewG (ls : List Gv) : Bool := decide ((ls.length : Int) ≤ 20) && !ls.any longG
theorem c16 (ls : List Gv) (hl : ls.length ≤ 140737488355328) : Pf Try.prog 7 [.sl (ls.map Gv.d)] (.d (.bool (fewG ls))) := by
 unfold fewG
 rw [show (ls.length : Int) = ((ls.map Gv.d).length : Int) from by rw [List.length_map]]
 refine pfb Try.func7 Try.ntmps7 Try.results7 (fun S0 O0 w0 m0 hm0 => ?_)
 repeat' first | refine st (by exact rfl) ?_ | refine clg (by exact rfl) (fun _ => c72 ls hl) ?_ | fail
 exact Y0
theorem sizes_memM {ks : List Tr} {m : Nat} (h : Tr.sizes ks ≤ m) : ks.length ≤ m ∧ ∀ k ∈ ks, k.size ≤ m :=
 ⟨Nat.le_trans (Tr.len_sizes ks) h, fun k hk => Nat.le_trans (Tr.size_mem hk) h⟩
theorem few_facts {p : Pg} {m : Int} (h0 : 0 ≤ m) (h1 : m ≤ 1000000) (h : p.few m = true) : p.globals.length ≤ 1000000 ∧ (∀ g ∈ p.globals, g.size ≤ 1000000) ∧ ∀ q ∈ p.procs, q.result.nm.size ≤ 1000000 := by
 obtain ⟨a, _, b⟩ := Pg.few_total h0 h
 have hs : Tr.sizes p.globals ≤ 1000000 := by
  have : p.total = Tr.sizes p.globals + pcsT p.procs := rfl
  omega
 refine ⟨(sizes_memM hs).1, (sizes_memM hs).2, fun q hq => ?_⟩
 have hl : q.long = false := by
  cases hq' : q.long with
  | false => rfl
  | true => rw [List.any_eq_true.2 ⟨q, hq, hq'⟩] at b; cases b
 unfold Pc.long at hl
 simp only [Bool.or_eq_false_iff] at hl
 have hr := hl.1.1.1.2
 generalize q.result = t at hr
 obtain ⟨op, nm, num, ks⟩ := t
 rw [Tr.long, Bool.or_eq_false_iff, decide_eq_false_iff_not] at hr
 show nm.size ≤ 1000000
 omega
theorem longN_facts {t : Tr} {m : Int} (h0 : 0 ≤ m) (h1 : m ≤ 1000000) (h : t.longN m = false) : t.size ≤ 1000000 := by
 unfold Tr.longN at h
 simp only [Bool.or_eq_false_iff, decide_eq_false_iff_not] at h
 have := Tr.cnt_eq t m h0 (by omega)
 omega
theorem fewG_facts {ls : List Gv} (h : fewG ls = true) : ls.length ≤ 20 ∧ ∀ x ∈ ls, x.nm.size ≤ 100 ∧ x.ty.size ≤ 100 := by
 unfold fewG at h
 rw [Bool.and_eq_true, decide_eq_true_eq] at h
 refine ⟨by omega, fun x hx => ?_⟩
 have hl : longG x = false := by
  cases hx' : longG x with
  | false => rfl
  | true => rw [List.any_eq_true.2 ⟨x, hx, hx'⟩] at h; cases h.2
 unfold longG at hl
 rw [Bool.or_eq_false_iff, decide_eq_false_iff_not, decide_eq_false_iff_not] at hl
 omega
theorem names_bd {p : Pg} {ls : List Gv} (hM : ∀ g ∈ p.globals, g.Ok) (hR : ∀ q ∈ p.procs, q.result.nm.size ≤ 1000000) (hl : ∀ x ∈ ls, x.ty.size ≤ 1000000) : Nm.Bd ⟨p, globC p [] p.globals, (ls.map toLc).reverse⟩ := by
 have hg : ∀ (l : List Tr) (acc : List Gv), (∀ x ∈ acc, x.ty.size ≤ 1000000) → ∀ x ∈ globC p acc l, x.ty.size ≤ 1000000 := by
  intro l
  induction l with
  | nil => intro acc h; rw [globC]; exact h
  | cons g r ih =>
   intro acc h
   rw [globC]
   split
   · exact ih acc h
   · cases hd : declT ⟨p, acc, []⟩ g with
     | error e => exact ih acc h
     | ok t =>
      refine ih _ (fun x hx => ?_)
      rcases List.mem_append.1 hx with hx | hx
      · exact h x hx
      · simp only [List.mem_cons, List.not_mem_nil, or_false] at hx
        subst hx
        exact declT_sz ⟨(fun x hx => by cases hx), h, hR⟩ hd
 refine ⟨fun x hx => ?_, hg _ [] (fun x hx => by cases hx), hR⟩
 rw [List.mem_reverse] at hx
 obtain ⟨y, hy, rfl⟩ := List.mem_map.1 hx
 exact hl y hy
end
section
def hidV (nm : ByteArray) : Lc := ⟨nm, ⟨#[]⟩, false, 0, 0⟩
theorem c58h (nm : ByteArray) (h : List Lc) : Gm Try.prog 58 [.d (.str nm), .ref 0 0] [[.d (locD h)]] (.tup []) [[.d (locD (hidV nm :: h))]] := by
 rcases h with _ | ⟨x, r⟩
 all_goals dsimp only [locD, hidV]
 all_goals refine gmB 1 Try.func58 Try.ntmps58 Try.results58 (fun S0 O0 w0 m0 hm0 => ?_)
 all_goals repeat' first | refine fz true (s := ⟨_, [_, _]⟩) (by exact rfl) ?_ | refine st (by exact rfl) ?_ | fail
 all_goals exact enm (by exact rfl) rfl (msame rfl)
theorem mm1 {k : Nat} {c : List PV} {rest : List (List PV)} (h : PV.refsBs k c = true) : MSub k (c :: rest) [c] := .cons (csame h) .nil
theorem locD_cells (l : List Lc) : PV.cellsOf (.d (locD l)) = [.d (locD l)] := by cases l <;> rfl
theorem sizes_at : ∀ {l : List Tr} {z : Nat} {k : Tr}, l[z]? = some k → Tr.sizes (l.drop z) = k.size + Tr.sizes (l.drop (z + 1))
 | x :: r, 0, k, h => by
  simp at h; subst h
  rw [List.drop_zero, Tr.sizes]; rfl
 | x :: r, z + 1, k, h => by
  rw [List.drop_succ_cons, List.drop_succ_cons]
  exact sizes_at (l := r) (by simpa using h)
theorem sizes_drop_le : ∀ (l : List Tr) (z : Nat), Tr.sizes (l.drop z) ≤ Tr.sizes l
 | [], z => by simp
 | x :: r, 0 => by simp
 | x :: r, z + 1 => by
  rw [List.drop_succ_cons, Tr.sizes]
  have := sizes_drop_le r z
  omega
theorem addP_len (p : ByteArray → Bool) (nm : ByteArray) (out : List ByteArray) : (addP p nm out).length ≤ out.length + 1 := by
 unfold addP
 split
 · split
   · omega
   · simp
 · omega
theorem freeA_len {F : Tr → (ByteArray → Bool) → List ByteArray → List ByteArray} : ∀ {ks : List Tr} {p : ByteArray → Bool} {out : List ByteArray}, (∀ k ∈ ks, ∀ p o, (F k p o).length ≤ o.length + k.size) → (freeA F ks p out).length ≤ out.length + Tr.sizes ks
 | [], p, out, _ => by rw [freeA]; omega
 | k :: r, p, out, h => by
  rw [freeA, Tr.sizes]
  have h1 := freeA_len (ks := r) (p := p) (out := F k p out) (fun k' hk => h k' (.tail _ hk))
  have h2 := h k (.head _) p out
  omega
theorem freeL_len {F : Tr → (ByteArray → Bool) → List ByteArray → List ByteArray} : ∀ {ks : List Tr} {p : ByteArray → Bool} {out : List ByteArray}, (∀ k ∈ ks, ∀ p o, (F k p o).length ≤ o.length + k.size) → (freeL F ks p out).length ≤ out.length + Tr.sizes ks
 | [], p, out, _ => by rw [freeL]; omega
 | k :: r, p, out, h => by
  rw [freeL, Tr.sizes]
  have h1 := freeL_len (ks := r) (p := if k.op = 50 then hideP p k.nm else p) (out := F k p out) (fun k' hk => h k' (.tail _ hk))
  have h2 := h k (.head _) p out
  omega
theorem free_len : ∀ (z : Nat) (t : Tr) (p : ByteArray → Bool) (out : List ByteArray), (freeF z t p out).length ≤ out.length + t.size := by
 intro z
 induction z with
 | zero => intro t p out; rw [freeF]; omega
 | succ z ih =>
  intro t p out
  obtain ⟨op, nm, num, ks⟩ := t
  rw [freeF, Tr.size]
  split
  · have := addP_len p nm out
    omega
  · split
    · split
      · rename_i e b he hb
        have h1 := sizes_at he
        have h2 := sizes_at hb
        have h3 := sizes_drop_le ks num.toNat
        have h4 := freeA_len (ks := ks.drop (num.toNat + 2)) (p := p) (out := freeF z b (hideA p (ks.take num.toNat)) (freeF z e p out)) (fun k _ p o => ih k p o)
        have h5 := ih b (hideA p (ks.take num.toNat)) (freeF z e p out)
        have h6 := ih e p out
        rw [show num.toNat + 1 + 1 = num.toNat + 2 from rfl] at h2
        omega
      · omega
    · have := freeL_len (ks := ks) (p := p) (out := out) (fun k _ p o => ih k p o)
      omega
theorem hideA_snoc : ∀ (l : List Tr) (k : Tr) (p : ByteArray → Bool), hideA p (l ++ [k]) = hideP (hideA p l) k.nm
 | [], k, p => rfl
 | x :: r, k, p => by rw [List.cons_append, hideA, hideA, hideA_snoc r k]
variable {l : List Tr} {z : Nat} {k : Tr}
theorem take_snoc (h : l[z]? = some k) : l.take (z + 1) = l.take z ++ [k] := by
 rw [List.take_add_one, h]; rfl
variable {p : ByteArray → Bool}
theorem freeA_at {F : Tr → (ByteArray → Bool) → List ByteArray → List ByteArray} {o : List ByteArray} (h : l[z]? = some k) : freeA F (l.drop z) p o = freeA F (l.drop (z + 1)) p (F k p o) := by
 obtain ⟨hz, hk'⟩ := List.getElem?_eq_some_iff.1 h
 rw [List.drop_eq_getElem_cons hz, hk', freeA]
theorem freeL_at {F : Tr → (ByteArray → Bool) → List ByteArray → List ByteArray} {o : List ByteArray} (h : l[z]? = some k) : freeL F (l.drop z) p o = freeL F (l.drop (z + 1)) (if k.op = 50 then hideP p k.nm else p) (F k p o) := by
 obtain ⟨hz, hk'⟩ := List.getElem?_eq_some_iff.1 h
 rw [List.drop_eq_getElem_cons hz, hk', freeL]
theorem loop_eq (op num : Int) (n : Nat) (hn : n ≤ 1000000) : ((((((op == 54) || (op == 55)) || (op == 56)) && decide (num ≥ 0)) && decide (num ≤ 2)) && decide ((n : Int) ≥ IntKind.i64.wrap (num + 2))) = loopC op num n := by
 unfold loopC
 by_cases h0 : 0 ≤ num
 · by_cases h2 : num ≤ 2
   · rw [wrap_i64 (by omega) (by omega)]
     have e : ∀ x : Int, (op == x) = decide (op = x) := fun x => by
      by_cases h : op = x
      · subst h; simp
      · simp [h]
     rw [e, e, e]
     simp only [ge_iff_le, h0, h2, decide_true, Bool.and_true, Bool.true_and]
   · simp [h2]
 · simp [h0]
variable {op num : Int}
theorem loop_facts {n : Nat} (h : loopC op num n = true) : 0 ≤ num ∧ num ≤ 2 ∧ num + 2 ≤ (n : Int) := by
 unfold loopC at h
 simp only [Bool.and_eq_true, decide_eq_true_eq] at h
 exact ⟨h.2.1, h.2.2.1, h.2.2.2⟩
variable {nm : ByteArray} {ks : List Tr} {out : List ByteArray}
theorem freeF_name : freeF (z + 1) (.mk 4 nm num ks) p out = addP p nm out := by
 rw [freeF, if_pos rfl]
theorem freeF_loop {e b : Tr} (h4 : ¬ op = 4) (hl : loopC op num ks.length = true) (he : ks[num.toNat]? = some e) (hb : ks[num.toNat + 1]? = some b) :
 freeF (z + 1) (.mk op nm num ks) p out = freeA (freeF z) (ks.drop (num.toNat + 2)) p (freeF z b (hideA p (ks.take num.toNat)) (freeF z e p out)) := by
 rw [freeF, if_neg h4, if_pos hl, he, hb]
theorem freeF_kids (h4 : ¬ op = 4) (hl : ¬ loopC op num ks.length = true) : freeF (z + 1) (.mk op nm num ks) p out = freeL (freeF z) ks p out := by
 rw [freeF, if_neg h4, if_neg hl]
theorem d_op {kop knu : Int} {knm : ByteArray} {kks : List Tr} (h : k.d = .agg [.int .i64 kop, .str knm, .int .i64 knu, .sl (List.map Tr.d kks)]) : k.op = kop ∧ k.nm = knm := by
 obtain ⟨a, b, c, d⟩ := k
 rw [Tr.d_mk] at h
 injection h with h; injection h with h1 h; injection h with h2 _
 injection h1 with _ h1
 injection h2 with h2
 exact ⟨h1, h2⟩
set_option maxHeartbeats 8000000 in
theorem c37n (locals : List ByteArray) (hll : locals.length ≤ 1000000) : ∀ (z : Nat) (t : Tr), t.size ≤ z → ∀ (hid : List Lc) (out : List ByteArray), out.length + t.size ≤ 1000000 →
 Gm Try.prog 37 [.d t.d, .d (locD hid), .d (.sl (locals.map .str)), .ref 0 0] [[.osl 1 (out.map .str)]] (.tup []) [[.osl 1 ((freeF z t (pH locals hid) out).map .str)]] := by
 intro z
 induction z with
 | zero => intro t h; exact absurd t.size_pos (by omega)
 | succ z ih =>
  intro t hsz hid out hB
  obtain ⟨op, nm, num, ks⟩ := t
  have hkd : ∀ k ∈ ks, k.size ≤ z := fun k hk => by
   have := Tr.size_mem hk
   rw [Tr.size] at hsz
   omega
  rw [Tr.size] at hB
  have hkl : ks.length ≤ 1000000 := by
   have := Tr.len_sizes ks
   omega
  have hlen : (ks.map Tr.d).length = ks.length := List.length_map ..
  have hol : (out.map D.str).length = out.length := List.length_map ..
  rw [Tr.d_mk]
  refine gmB 1 Try.func37 Try.ntmps37 Try.results37 (fun S0 O0 w0 m0 hm0 => ?_)
  repeat' (fail_if_success refine fz true (s := ⟨_, [_, _]⟩) (by exact rfl) ?_); first | refine st (by exact rfl) ?_ | fail
  refine Z17 ?_
  refine bx (k := 1) (mem' := [[.osl 1 (out.map .str)], [.d (locD hid)]]) (by exact rfl) (locD_cells hid) ?_
  repeat' first | refine st (by exact rfl) ?_ | fail
  by_cases h4 : op = 4
  · subst h4
    rw [freeF_name]
    refine ct (by exact rfl) ?_ rfl
    repeat' first | refine st (by exact rfl) ?_ | fail
    have q1 := c199 locals nm (by omega)
    have q2 := c200L hid nm
    have q3 := c199 out nm (by omega)
    have hP : ∀ r, findL nm hid = r → pH locals hid nm = (hasB locals nm && r.isEmpty) := fun r h => by
     unfold pH
     rw [h]
     cases r <;> rfl
    unfold addP
    generalize hasB locals nm = b1 at *
    generalize hasB out nm = b2 at *
    cases hf : findL nm hid with
    | cons x r =>
     rw [hP _ hf]
     rw [hf] at q2
     dsimp only [locD, List.isEmpty] at q2 ⊢
     refine Z20 ?_;refine Z95 ?_;refine Z3 ?_
     refine oc (hcl := q1) (hc := ?_)
     refine Z95 ?_;refine Z95 ?_
     refine ocg (hcl := fun _ => q2) (hc := ?_)
     refine Z95 ?_;refine Z95 ?_;refine Z95 ?_;refine Z95 ?_
     refine ocg (hcl := fun _ => q3) (hc := ?_)
     refine Z3 ?_;refine Z88 ?_
     repeat' first | refine st (by exact rfl) ?_ | fail
     refine cf (by exact rfl) ?_ (by simp)
     repeat' first | refine st (by exact rfl) ?_ | fail
     rw [if_neg (by simp)]
     exact Y12
    | nil =>
     rw [hP _ hf]
     rw [hf] at q2
     dsimp only [locD, List.isEmpty] at q2 ⊢
     refine Z20 ?_;refine Z95 ?_;refine Z3 ?_
     refine oc (hcl := q1) (hc := ?_)
     refine Z95 ?_;refine Z95 ?_
     refine ocg (hcl := fun _ => q2) (hc := ?_)
     refine Z95 ?_;refine Z95 ?_;refine Z95 ?_;refine Z95 ?_
     refine ocg (hcl := fun _ => q3) (hc := ?_)
     refine Z3 ?_;refine Z88 ?_
     repeat' first | refine st (by exact rfl) ?_ | fail
     refine cd (by exact rfl) (fun hb => ?_) (fun hb => ?_)
     · have h1 : b1 = true := by cases b1 <;> simp_all
       have h2 : b2 = false := by cases b2 <;> simp_all
       subst h1; subst h2
       repeat' first | refine st (by exact rfl) ?_ | fail
       refine oa 3 7 9 [.d (.sl (out.map .str))] [.osl 1 (out.map .str ++ [.str nm])] (hc := ?_)
       refine Z77 ?_;refine Z77 ?_;refine Z77 ?_
       refine ola (hc := ?_)
       refine Z77 ?_;refine Z77 ?_
       refine oba (hc := ?_)
       refine oaa (hc := ?_)
       refine Z77 ?_
       refine osa (hc := ?_)
       refine oea (hc := ?_)
       repeat' first | refine st (by exact rfl) ?_ | fail
       have hE : (if (true && true) = true then (if false = true then out else out ++ [nm]) else out) = out ++ [nm] := rfl
       rw [hE, List.map_append]
       exact Y12
     · repeat' first | refine st (by exact rfl) ?_ | fail
       have hE : (if (b1 && true) = true then (if b2 = true then out else out ++ [nm]) else out) = out := by
        cases b1 <;> cases b2 <;> simp_all
       rw [hE]
       exact Y12
  refine cf (by exact rfl) ?_ (by simpa using h4)
  repeat' first | refine st (by exact rfl) ?_ | fail
  refine cd (by exact rfl) (fun hb => ?_) (fun hb => ?_)
  · have hL : loopC op num ks.length = true := by
     rw [← loop_eq op num ks.length hkl]
     rw [hlen] at hb
     exact hb
    obtain ⟨n0, n2, nl⟩ := loop_facts hL
    have hw1 : IntKind.i64.wrap (num + 1) = num + 1 := wrap_i64 (by omega) (by omega)
    have hw2 : IntKind.i64.wrap (num + 2) = num + 2 := wrap_i64 (by omega) (by omega)
    obtain ⟨e, he⟩ : ∃ e, ks[num.toNat]? = some e := ⟨_, gE (by omega)⟩
    obtain ⟨bo, hbo⟩ : ∃ bo, ks[num.toNat + 1]? = some bo := ⟨_, gE (by omega)⟩
    rw [freeF_loop h4 hL he hbo]
    have s1 := sizes_at he
    have s2 := sizes_at hbo
    rw [show num.toNat + 1 + 1 = num.toNat + 2 from rfl] at s2
    have s3 := sizes_drop_le ks num.toNat
    have l1 := free_len z e (pH locals hid) out
    have ie := ih e (hkd e (mG he)) hid out (by omega)
    generalize freeF z e (pH locals hid) out = o1 at *
    have hed := Tr.ds_get he
    have hbd := Tr.ds_get hbo
    obtain ⟨eop, enm', enu, eks, hea⟩ := e.d_agg
    rw [hea] at ie hed
    obtain ⟨bop, bnm, bnu, bks, hba⟩ := bo.d_agg
    repeat' first | refine st (by exact rfl) ?_ | fail
    refine el (by exact rfl) hed ?_ n0
    repeat' first | refine st (by exact rfl) ?_ | fail
    refine cs [0] (by exact rfl) ie ?_
    repeat' first | refine st (by exact rfl) ?_ | fail
    refine qu (by exact rfl) (by exact ⟨⟨n0, by rw [hlen]; omega⟩, Tr.ds_cells ks⟩) ?_
    repeat' first | refine st (by exact rfl) ?_ | fail
    have htl : ((ks.map Tr.d).take num.toNat).length = num.toNat := by rw [List.length_take, hlen]; omega
    refine gLo (fun y : List Lc × Nat => ⟨[(2, .d (.sl (locals.map .str))), (3, .ref 0 0), (4, .d (.ptr (.agg [.int .i64 op, .str nm, .int .i64 num, .sl (ks.map Tr.d)]))), (5, .ref 1 0), (8, .fn (.func 58) [] [.ref 1 0]), (10, .d (locD hid)), (98, .d (.sl ((ks.map Tr.d).take num.toNat))), (99, .d (.int .i64 (((ks.map Tr.d).take num.toNat).length : Int))), (100, .d (.int .i64 (y.2 : Int)))], [[.osl 1 (o1.map .str)], [.d (locD y.1)]]⟩) (fun y => num.toNat - y.2) (fun y => y.2 ≤ num.toNat ∧ pH locals y.1 = hideA (pH locals hid) (ks.take y.2)) (hid, 0) ⟨Nat.zero_le _, rfl⟩ le_of (fun y hy Q' hn he' hr hp => ?_)
    obtain ⟨l, k⟩ := y
    obtain ⟨hk1, hk2⟩ := hy
    dsimp only at hk1 hk2
    repeat' first | refine st (by exact rfl) ?_ | fail
    refine cd (by exact rfl) (fun hb2 => ?_) (fun hb2 => ?_)
    · have hlt : k < num.toNat := by have := oR hb2; omega
      obtain ⟨x, hx⟩ : ∃ x, ks[k]? = some x := ⟨_, gE (by omega)⟩
      have hxd : ((ks.map Tr.d).take num.toNat)[k]? = some x.d := by rw [List.getElem?_take, if_pos hlt]; exact Tr.ds_get hx
      obtain ⟨xop, xnm, xnu, xks, hxa⟩ := x.d_agg
      obtain ⟨_, hxn⟩ := d_op hxa
      rw [hxa] at hxd
      repeat' first | refine st (by exact rfl) ?_ | fail
      refine el (by exact rfl) hxd ?_ (by omega)
      repeat' first | refine st (by exact rfl) ?_ | fail
      refine cs [1] (by exact rfl) (c58h xnm l) ?_
      repeat' first | refine st (by exact rfl) ?_ | fail
      rw [wrap_succ (by omega)]
      exact toL (hn _ (hidV xnm :: l, k + 1) ⟨hlt, by dsimp only; rw [pH_hide, hk2, take_snoc hx, hideA_snoc, hxn]; rfl⟩ (by dsimp only; omega) le_of)
    · have hkn : k = num.toNat := by have := of_decide_eq_false hb2; omega
      subst hkn
      have ib := ih bo (hkd bo (mG hbo)) l o1 (by omega)
      rw [hk2, hba] at ib
      have l2 := free_len z bo (hideA (pH locals hid) (ks.take num.toNat)) o1
      generalize freeF z bo (hideA (pH locals hid) (ks.take num.toNat)) o1 = o2 at *
      have hbd' : (ks.map Tr.d)[(IntKind.i64.wrap (num + 1)).toNat]? = some (.agg [.int .i64 bop, .str bnm, .int .i64 bnu, .sl (List.map Tr.d bks)]) := by
       rw [hw1, show (num + 1).toNat = num.toNat + 1 from by omega, hbd, hba]
      repeat' first | refine st (by exact rfl) ?_ | fail
      refine toL (he' _ _ ?_)
      repeat' first | refine st (by exact rfl) ?_ | fail
      refine oh 10 [.osl 1 (o2.map .str)] (hc := ?_)
      iterate 5 refine ovh (hc := ?_)
      refine oih (hd := hbd') (h0 := by rw [hw1]; omega) (hc := ?_)
      iterate 4 refine ovh (hc := ?_)
      refine omh (hcl := ib) (hc := ?_)
      refine oeh (hc := ?_)
      repeat' first | refine st (by exact rfl) ?_ | fail
      refine qu (by exact rfl) (by rw [hw2]; exact ⟨⟨by omega, by rw [hlen]; omega⟩, Tr.ds_cells ks⟩) ?_
      have hdr : List.drop (IntKind.i64.wrap (num + 2)).toNat (ks.map Tr.d) = (ks.drop (num.toNat + 2)).map Tr.d := by
       rw [hw2, show (num + 2).toNat = num.toNat + 2 from by omega, List.map_drop]
      rw [hdr]
      have hrm : ∀ k ∈ ks.drop (num.toNat + 2), k.size ≤ z := fun k hk => hkd k (List.mem_of_mem_drop hk)
      have hrl : (ks.drop (num.toNat + 2)).length ≤ 1000000 := by rw [List.length_drop]; omega
      generalize ks.drop (num.toNat + 2) = rs at *
      have hrsl : (rs.map Tr.d).length = rs.length := List.length_map ..
      repeat' first | refine st (by exact rfl) ?_ | fail
      refine gLo (fun y : List ByteArray × Nat => ⟨[(2, .d (.sl (locals.map .str))), (3, .ref 0 0), (10, .d (locD hid)), (125, .d (.sl (rs.map Tr.d))), (126, .d (.int .i64 ((rs.map Tr.d).length : Int))), (127, .d (.int .i64 (y.2 : Int)))], [[.osl 1 (y.1.map .str)]]⟩) (fun y => rs.length - y.2) (fun y => y.2 ≤ rs.length ∧ freeA (freeF z) rs (pH locals hid) o2 = freeA (freeF z) (rs.drop y.2) (pH locals hid) y.1 ∧ y.1.length + Tr.sizes (rs.drop y.2) ≤ 1000000) (o2, 0) ⟨Nat.zero_le _, rfl, by rw [List.drop_zero]; dsimp only; omega⟩ le_of (fun y hy Q2 hn2 he2 hr2 hp2 => ?_)
      obtain ⟨o, k⟩ := y
      obtain ⟨hk1, hk2, hk3⟩ := hy
      dsimp only at hk1 hk2 hk3
      repeat' first | refine st (by exact rfl) ?_ | fail
      refine cd (by exact rfl) (fun hb3 => ?_) (fun hb3 => ?_)
      · have hlt : k < rs.length := by have := oR hb3; omega
        obtain ⟨x, hx⟩ : ∃ x, rs[k]? = some x := ⟨_, gE hlt⟩
        have hxd := Tr.ds_get hx
        have s4 := sizes_at hx
        have l4 := free_len z x (pH locals hid) o
        have ix := ih x (hrm x (mG hx)) hid o (by omega)
        obtain ⟨xop, xnm, xnu, xks, hxa⟩ := x.d_agg
        rw [hxa] at hxd ix
        repeat' first | refine st (by exact rfl) ?_ | fail
        refine el (by exact rfl) hxd ?_ (by omega)
        repeat' first | refine st (by exact rfl) ?_ | fail
        refine cs [0] (by exact rfl) ix ?_
        repeat' first | refine st (by exact rfl) ?_ | fail
        rw [wrap_succ (by omega)]
        exact toL (hn2 _ (freeF z x (pH locals hid) o, k + 1) ⟨hlt, by dsimp only; rw [hk2, freeA_at hx], by dsimp only; omega⟩ (by dsimp only; omega) le_of)
      · have hkn : rs.length ≤ k := by have := of_decide_eq_false hb3; omega
        rw [List.drop_eq_nil_of_le hkn, freeA] at hk2
        repeat' first | refine st (by exact rfl) ?_ | fail
        refine toL (he2 _ _ ?_)
        repeat' first | refine st (by exact rfl) ?_ | fail
        rw [hk2]
        exact Y12
  · have hL : ¬ loopC op num ks.length = true := by
     rw [← loop_eq op num ks.length hkl]
     rw [hlen] at hb
     exact fun h => by rw [h] at hb; cases hb
    rw [freeF_kids h4 hL]
    repeat' first | refine st (by exact rfl) ?_ | fail
    refine gLo (fun y : (List Lc × List ByteArray) × Nat => ⟨[(2, .d (.sl (locals.map .str))), (3, .ref 0 0), (5, .ref 1 0), (8, .fn (.func 58) [] [.ref 1 0]), (138, .d (.sl (ks.map Tr.d))), (139, .d (.int .i64 ((ks.map Tr.d).length : Int))), (140, .d (.int .i64 (y.2 : Int)))], [[.osl 1 (y.1.2.map .str)], [.d (locD y.1.1)]]⟩) (fun y => ks.length - y.2) (fun y => y.2 ≤ ks.length ∧ freeL (freeF z) ks (pH locals hid) out = freeL (freeF z) (ks.drop y.2) (pH locals y.1.1) y.1.2 ∧ y.1.2.length + Tr.sizes (ks.drop y.2) ≤ 1000000) ((hid, out), 0) ⟨Nat.zero_le _, rfl, by rw [List.drop_zero]; dsimp only; omega⟩ le_of (fun y hy Q2 hn2 he2 hr2 hp2 => ?_)
    obtain ⟨⟨l, o⟩, k⟩ := y
    obtain ⟨hk1, hk2, hk3⟩ := hy
    dsimp only at hk1 hk2 hk3
    repeat' first | refine st (by exact rfl) ?_ | fail
    refine cd (by exact rfl) (fun hb3 => ?_) (fun hb3 => ?_)
    · have hlt : k < ks.length := by have := oR hb3; omega
      obtain ⟨x, hx⟩ : ∃ x, ks[k]? = some x := ⟨_, gE hlt⟩
      have hxd := Tr.ds_get hx
      have s4 := sizes_at hx
      have l4 := free_len z x (pH locals l) o
      have ix := ih x (hkd x (mG hx)) l o (by omega)
      obtain ⟨xop, xnm, xnu, xks, hxa⟩ := x.d_agg
      obtain ⟨hxo, hxn⟩ := d_op hxa
      rw [hxa] at hxd ix
      rw [freeL_at hx, hxo, hxn] at hk2
      repeat' first | refine st (by exact rfl) ?_ | fail
      refine el (by exact rfl) hxd ?_ (by omega)
      repeat' first | refine st (by exact rfl) ?_ | fail
      refine cs [0] (by exact rfl) ix ?_
      repeat' first | refine st (by exact rfl) ?_ | fail
      by_cases h50 : xop = 50
      · rw [if_pos h50] at hk2
        refine ct (by exact rfl) ?_ (by simpa using h50)
        repeat' first | refine st (by exact rfl) ?_ | fail
        refine cs [1] (by exact rfl) (c58h xnm l) (hsel := fun b hb => by simp only [List.mem_cons, List.not_mem_nil, or_false] at hb; subst hb; show 1 < 3; decide) ?_
        repeat' first | refine st (by exact rfl) ?_ | fail
        rw [wrap_succ (by omega)]
        exact toL (hn2 _ ((hidV xnm :: l, freeF z x (pH locals l) o), k + 1) ⟨hlt, by dsimp only; rw [hk2, pH_hide]; rfl, by dsimp only; omega⟩ (by dsimp only; omega) le_of)
      · rw [if_neg h50] at hk2
        refine cf (by exact rfl) ?_ (by simpa using h50)
        repeat' first | refine st (by exact rfl) ?_ | fail
        rw [wrap_succ (by omega)]
        exact toL (hn2 _ ((l, freeF z x (pH locals l) o), k + 1) ⟨hlt, hk2, by dsimp only; omega⟩ (by dsimp only; omega) le_of)
    · have hkn : ks.length ≤ k := by have := of_decide_eq_false hb3; omega
      rw [List.drop_eq_nil_of_le hkn, freeL] at hk2
      repeat' first | refine st (by exact rfl) ?_ | fail
      refine toL (he2 _ _ ?_)
      repeat' first | refine st (by exact rfl) ?_ | fail
      rw [hk2]
      exact Y12
theorem c11 (t : Tr) (ht : t.size ≤ 1000000) (locals : List ByteArray) (hll : locals.length ≤ 1000000) : Pf Try.prog 11 [t.d, .sl (locals.map .str)] (.d (.sl ((freeF t.size t (hasB locals) []).map .str))) := by
 have q := c37n locals hll t.size t (Nat.le_refl _) [] [] (by simpa using ht)
 rw [pH_nil] at q
 rw [t_eta t] at q ⊢
 refine pfb Try.func11 Try.ntmps11 Try.results11 (fun S0 O0 w0 m0 hm0 => ?_)
 repeat' (fail_if_success refine fz true (s := ⟨_, [_]⟩) (by exact rfl) ?_); first | refine st (by exact rfl) ?_ | fail
 refine Z17 ?_
 repeat' first | refine st (by exact rfl) ?_ | fail
 refine gLe (s' := ⟨[(7, .d (.sl (locals.map .str))), (6, .d (.agg [.int .i64 t.op, .str t.nm, .int .i64 t.nu, .sl (t.kids.map Tr.d)])), (5, .ref 0 0)], [[.osl 1 []]]⟩) le_of ?_ rfl
 refine cs [0] (by exact rfl) q ?_
 repeat' first | refine st (by exact rfl) ?_ | fail
 exact Y0
end
end Go.Proofs.Ytklkbfpjimeaoaa
