import Derived.Test.YtklkbfpjimeaoaaGreatM29
import Derived.Test.YtklkbfpjimeaoaaGreatM27
/- Contracts of functions. Conditions: none. -/
set_option linter.unusedSimpArgs false
set_option linter.unusedVariables false
set_option maxRecDepth 20000
namespace Go.Proofs.YtklkbfpjimeaoaaGreat
open Go Go.Proofs.YtklkbfpjimeaoaaGreat.E
section
theorem c211 (s : ByteArray) : Pf Tryz.prog 211 [.str s] (.d (.bool (isDomB s))) := by
 refine pfb Tryz.func211 Tryz.ntmps211 Tryz.results211 (fun S0 O0 w0 m0 hm0 => ?_)
 repeat' first | refine st (by exact rfl) ?_ | fail
 exact Y1
theorem c213 (s : ByteArray) : Pf Tryz.prog 213 [.str s] (.d (.bool (isArrB s))) := by
 refine pfb Tryz.func213 Tryz.ntmps213 Tryz.results213 (fun S0 O0 w0 m0 hm0 => ?_)
 repeat' first | refine st (by exact rfl) ?_ | fail
 exact Y1
theorem hasB_basic (s : ByteArray) : hasB [sInt, sBool, sRange, sDom1, sDom2, sArr1, sArr2, sSync, sAtomic, sVoid] s = basicB s := by
 simp [hasB, basicB]
theorem c212 (s : ByteArray) : Pf Tryz.prog 212 [.str s] (.d (.bool (basicB s))) := by
 have q := c176 [sInt, sBool, sRange, sDom1, sDom2, sArr1, sArr2, sSync, sAtomic, sVoid] s (by decide)
 rw [hasB_basic] at q
 refine pfb Tryz.func212 Tryz.ntmps212 Tryz.results212 (fun S0 O0 w0 m0 hm0 => ?_)
 repeat' first | refine st (by exact rfl) ?_ | refine bs (by exact rfl) ?_ | refine cl (by exact rfl) q ?_ | fail
 exact Y1
theorem c214 (f : Fm) : Pf Tryz.prog 214 [f.d] (.d (.bool (staticB f))) := by
 unfold Fm.d
 refine pfb Tryz.func214 Tryz.ntmps214 Tryz.results214 (fun S0 O0 w0 m0 hm0 => ?_)
 repeat' first | refine st (by exact rfl) ?_ | refine clg (by exact rfl) (fun _ => c212 f.ty.nm) ?_ | fail
 exact Y1
variable {y : Nat}
theorem allR_end {l : List ByteArray} {z : Nat} {t : ByteArray} (h : allR l z t = allR l y t) (hy : l.length ≤ y) : allR l z t = true := by
 rw [h, allR, List.drop_eq_nil_of_le hy]; rfl
theorem allR_step {l : List ByteArray} {s t : ByteArray} (hs : l[y]? = some s) : allR l y t = (decide (s = t) && allR l (y + 1) t) := by
 obtain ⟨hz, hk'⟩ := List.getElem?_eq_some_iff.1 hs
 unfold allR
 rw [List.drop_eq_getElem_cons hz, hk', List.all_cons]
theorem c226 (l : List ByteArray) (z : Nat) (t : ByteArray) (hl : l.length ≤ 1000000) (hz : z ≤ 1) : Pf Tryz.prog 226 [.sl (l.map .str), .int .i64 (z : Int), .str t] (.d (.bool (allR l z t))) := by
 refine pfb Tryz.func226 Tryz.ntmps226 Tryz.results226 (fun S0 O0 w0 m0 hm0 => ?_)
 repeat' first | refine st (by exact rfl) ?_ | fail
 refine gLo (fun y : Nat => ⟨[(0, .d (.sl (l.map .str))), (2, .d (.str t)), (7, .d (.int .i64 (y : Int)))], []⟩) (fun y => l.length + 1 - y) (fun y => allR l z t = allR l y t ∧ y ≤ l.length + 1) z ⟨rfl, by omega⟩ le_of (fun y hy Q' hn he hr hp => ?_)
 obtain ⟨hy, hyl⟩ := hy
 have hlen : (l.map D.str).length = l.length := List.length_map ..
 repeat' first | refine st (by exact rfl) ?_ | fail
 refine cd (by exact rfl) (fun hb => ?_) (fun hb => ?_)
 · have hlt : y < l.length := by have := oR hb; omega
   obtain ⟨s, hs⟩ : ∃ s, l[y]? = some s := ⟨_, gE hlt⟩
   repeat' first | refine st (by exact rfl) ?_ | fail
   refine el (by exact rfl) (strs_get hs) ?_ (by omega)
   repeat' first | refine st (by exact rfl) ?_ | fail
   refine cd (by exact rfl) (fun hb2 => ?_) (fun hb2 => ?_)
   · repeat' first | refine st (by exact rfl) ?_ | fail
     refine Z91 ?_
     repeat' first | refine st (by exact rfl) ?_ | fail
     exact en (by exact rfl) (by rw [hy, allR_step hs, show decide (s = t) = false from by simpa using hb2]; rfl)
   · repeat' first | refine st (by exact rfl) ?_ | fail
     rw [wrap_succ (by omega)]
     exact toL (hn _ (y + 1) ⟨by rw [hy, allR_step hs, show decide (s = t) = true from by simpa using hb2]; rfl, by omega⟩ (by omega) le_of)
 · have hlt : l.length ≤ y := by have := of_decide_eq_false hb; omega
   repeat' first | refine st (by exact rfl) ?_ | fail
   refine Z68 ?_
   repeat' first | refine st (by exact rfl) ?_ | fail
   exact en (by exact rfl) (by rw [allR_end hy hlt])
theorem c225 (nm : ByteArray) (l : List ByteArray) (hl : l.length ≤ 1000000) : Pf Tryz.prog 225 [.str nm, .sl (l.map .str)] (.tup [.d (.str (biR nm l).1), .d (.bool (biR nm l).2)]) := by
 have q0 := c226 l 0 sInt hl (by decide)
 have q1 := c226 l 0 sBool hl (by decide)
 by_cases h1 : (decide (nm = ⟨#[43]⟩) || decide (nm = ⟨#[45]⟩) || decide (nm = ⟨#[42]⟩) || decide (nm = ⟨#[47]⟩) || decide (nm = ⟨#[37]⟩)) = true
 · rw [biR, if_pos h1]
   simp only [Bool.or_eq_true, decide_eq_true_eq] at h1
   rcases h1 with (((rfl | rfl) | rfl) | rfl) | rfl
   all_goals refine pfb Tryz.func225 Tryz.ntmps225 Tryz.results225 (fun S0 O0 w0 m0 hm0 => ?_)
   all_goals repeat' first | refine st (by exact rfl) ?_ | refine ct (by exact rfl) ?_ rfl | refine cf (by exact rfl) ?_ rfl | refine cl (by exact rfl) q0 ?_ | fail
   all_goals exact en (by exact rfl) rfl
 by_cases h2 : (decide (nm = ⟨#[61, 61]⟩) || decide (nm = ⟨#[33, 61]⟩)) = true
 · rw [biR, if_neg h1, if_pos h2]
   simp only [Bool.or_eq_true, decide_eq_true_eq] at h2
   rcases h2 with rfl | rfl
   all_goals refine pfb Tryz.func225 Tryz.ntmps225 Tryz.results225 (fun S0 O0 w0 m0 hm0 => ?_)
   all_goals repeat' first | refine st (by exact rfl) ?_ | refine ct (by exact rfl) ?_ rfl | refine cf (by exact rfl) ?_ rfl | refine cl (by exact rfl) q0 ?_ | refine clg (by exact rfl) (fun _ => q1) ?_ | fail
   all_goals exact en (by exact rfl) rfl
 by_cases h3 : (decide (nm = ⟨#[60]⟩) || decide (nm = ⟨#[60, 61]⟩) || decide (nm = ⟨#[62]⟩) || decide (nm = ⟨#[62, 61]⟩)) = true
 · rw [biR, if_neg h1, if_neg h2, if_pos h3]
   simp only [Bool.or_eq_true, decide_eq_true_eq] at h3
   rcases h3 with ((rfl | rfl) | rfl) | rfl
   all_goals refine pfb Tryz.func225 Tryz.ntmps225 Tryz.results225 (fun S0 O0 w0 m0 hm0 => ?_)
   all_goals repeat' first | refine st (by exact rfl) ?_ | refine ct (by exact rfl) ?_ rfl | refine cf (by exact rfl) ?_ rfl | refine cl (by exact rfl) q0 ?_ | fail
   all_goals exact en (by exact rfl) rfl
 rw [biR, if_neg h1, if_neg h2, if_neg h3]
 simp only [Bool.or_eq_true, decide_eq_true_eq, not_or] at h1 h2 h3
 refine pfb Tryz.func225 Tryz.ntmps225 Tryz.results225 (fun S0 O0 w0 m0 hm0 => ?_)
 repeat' first | refine st (by exact rfl) ?_ | refine cf (by exact rfl) ?_ (by simp [h1, h2, h3]) | refine cl (by exact rfl) q1 ?_ | fail
 exact Y1
theorem c227 (nm t : ByteArray) : Pf Tryz.prog 227 [.str nm, .str t] (.tup [.d (.str (fieldR nm t).1), .d (.bool (fieldR nm t).2)]) := by
 unfold fieldR
 by_cases h1 : nm = sSize
 · rw [if_pos h1]
   subst h1
   refine pfb Tryz.func227 Tryz.ntmps227 Tryz.results227 (fun S0 O0 w0 m0 hm0 => ?_)
   repeat' first | refine st (by exact rfl) ?_ | refine ct (by exact rfl) ?_ rfl | refine cf (by exact rfl) ?_ rfl | refine clg (by exact rfl) (fun _ => c211 t) ?_ | refine clg (by exact rfl) (fun _ => c213 t) ?_ | fail
   exact Y1
 rw [if_neg h1]
 by_cases h2 : nm = sDomain
 · rw [if_pos h2]
   subst h2
   by_cases h3 : t = sArr1
   · rw [if_pos h3]
     subst h3
     refine pfb Tryz.func227 Tryz.ntmps227 Tryz.results227 (fun S0 O0 w0 m0 hm0 => ?_)
     repeat' first | refine st (by exact rfl) ?_ | refine ct (by exact rfl) ?_ rfl | refine cf (by exact rfl) ?_ rfl | fail
     exact Y1
   · rw [if_neg h3]
     refine pfb Tryz.func227 Tryz.ntmps227 Tryz.results227 (fun S0 O0 w0 m0 hm0 => ?_)
     repeat' first | refine st (by exact rfl) ?_ | refine ct (by exact rfl) ?_ rfl | refine cf (by exact rfl) ?_ rfl | refine cf (by exact rfl) ?_ (decide_eq_false h3) | fail
     exact Y1
 rw [if_neg h2]
 refine pfb Tryz.func227 Tryz.ntmps227 Tryz.results227 (fun S0 O0 w0 m0 hm0 => ?_)
 repeat' first | refine st (by exact rfl) ?_ | refine cf (by exact rfl) ?_ (decide_eq_false h1) | refine cf (by exact rfl) ?_ (decide_eq_false h2) | fail
 exact Y1
theorem findI_step {l : List Pc} {q : Pc} {nm : ByteArray} (hq : l[y]? = some q) (h : ∀ j p, j < y → l[j]? = some p → p.nm ≠ nm) : (q.nm = nm → idxL (fun q : Pc => decide (q.nm = nm)) l = (y : Int)) ∧ (q.nm ≠ nm → ∀ j p, j < y + 1 → l[j]? = some p → p.nm ≠ nm) := by
 constructor
 · intro he
   obtain ⟨hy, hq'⟩ := List.getElem?_eq_some_iff.1 hq
   have : l.findIdx? (fun q : Pc => decide (q.nm = nm)) = some y := by
    rw [List.findIdx?_eq_some_iff_getElem]
    refine ⟨hy, by rw [hq']; exact decide_eq_true he, fun j hj => ?_⟩
    have := h j l[j] hj (gE (by omega))
    simpa using this
   simp [idxL, this]
 · intro he j p hj hp
   by_cases hjy : j = y
   · subst hjy; rw [hq] at hp; injection hp with hp; subst hp; exact he
   · exact h j p (by omega) hp
theorem findI_none {l : List Pc} {nm : ByteArray} (hy : l.length ≤ y) (h : ∀ j p, j < y → l[j]? = some p → p.nm ≠ nm) : idxL (fun q : Pc => decide (q.nm = nm)) l = -1 := by
 have : l.findIdx? (fun q : Pc => decide (q.nm = nm)) = none := by
  rw [List.findIdx?_eq_none_iff]
  intro x hx
  obtain ⟨j, hj⟩ := List.getElem?_of_mem hx
  exact decide_eq_false (h j x (by have := (lG hj); omega) hj)
 simp [idxL, this]
theorem c58 (p : Pg) (nm : ByteArray) (hlim : p.procs.length ≤ 140737488355328) : Pf Tryz.prog 58 [p.d, .str nm] (.d (.int .i64 (idxL (fun q => decide (q.nm = nm)) p.procs))) := by
 unfold Pg.d
 refine pfb Tryz.func58 Tryz.ntmps58 Tryz.results58 (fun S0 O0 w0 m0 hm0 => ?_)
 repeat' first | refine st (by exact rfl) ?_ | fail
 refine gLo (fun y : Nat => ⟨[(1, .d (.str nm)), (2, .ref 0 0), (5, .d (.int .i64 (y : Int)))], [[.d (.sl (p.globals.map Tr.d)), .d (.sl (p.procs.map Pc.d))]]⟩) (fun y => p.procs.length - y) (fun y => ∀ j q, j < y → p.procs[j]? = some q → q.nm ≠ nm) 0 (fun j _ h => absurd h (Nat.not_lt_zero _)) le_of (fun y hy Q' hn he hr hp => ?_)
 have hlen : (p.procs.map Pc.d).length = p.procs.length := List.length_map ..
 repeat' first | refine st (by exact rfl) ?_ | fail
 refine cd (by exact rfl) (fun hb => ?_) (fun hb => ?_)
 · have hlt : y < p.procs.length := by have := oR hb; omega
   obtain ⟨q, hq⟩ : ∃ q, p.procs[y]? = some q := ⟨_, gE hlt⟩
   obtain ⟨h1, h2⟩ := findI_step hq hy
   repeat' first | refine st (by exact rfl) ?_ | fail
   refine el (by exact rfl) (pc_get hq) ?_ (by omega)
   repeat' first | refine st (by exact rfl) ?_ | fail
   refine cd (by exact rfl) (fun hb2 => ?_) (fun hb2 => ?_)
   · repeat' first | refine st (by exact rfl) ?_ | fail
     refine Z91 ?_
     repeat' first | refine st (by exact rfl) ?_ | fail
     exact en (by exact rfl) (by rw [h1 (by simpa using hb2)])
   · repeat' first | refine st (by exact rfl) ?_ | fail
     rw [wrap_succ (by omega)]
     exact toL (hn _ (y + 1) (h2 (by simpa using hb2)) (by omega) le_of)
 · have hlt : p.procs.length ≤ y := by have := of_decide_eq_false hb; omega
   repeat' first | refine st (by exact rfl) ?_ | fail
   refine Z68 ?_
   repeat' first | refine st (by exact rfl) ?_ | fail
   exact en (by exact rfl) (by rw [findI_none hlt hy])
def lastF (nm : ByteArray) (l : List Gv) : Nat → Int
 | 0 => -1
 | k + 1 => match l[k]? with
  | some x => if x.nm = nm then (k : Int) else lastF nm l k
  | none => lastF nm l k
theorem gv_get {l : List Gv} {z : Nat} {x : Gv} (h : l[z]? = some x) : (l.map Gv.d)[z]? = some (.agg [.str x.nm, .str x.ty, .bool x.con]) := by rw [List.getElem?_map, h]; rfl
theorem c127 (l : List Gv) (nm : ByteArray) (hl : l.length ≤ 1000000) : Pf Tryz.prog 127 [.sl (l.map Gv.d), .str nm] (.d (.int .i64 (lastF nm l l.length))) := by
 refine pfb Tryz.func127 Tryz.ntmps127 Tryz.results127 (fun S0 O0 w0 m0 hm0 => ?_)
 repeat' first | refine st (by exact rfl) ?_ | fail
 have hlen : (l.map Gv.d).length = l.length := List.length_map ..
 have hw0 : IntKind.i64.wrap (((l.map Gv.d).length : Int) - 1) = (l.length : Int) - 1 := by rw [hlen]; exact wrap_i64 (by omega) (by omega)
 rw [hw0]
 refine gLo (fun y : Nat => ⟨[(0, .d (.sl (l.map Gv.d))), (1, .d (.str nm)), (5, .d (.int .i64 ((y : Int) - 1)))], []⟩) (fun y => y) (fun y => lastF nm l l.length = lastF nm l y ∧ y ≤ l.length) l.length ⟨rfl, Nat.le_refl _⟩ le_of (fun y hy Q' hn he hr hp => ?_)
 obtain ⟨hy, hyl⟩ := hy
 repeat' first | refine st (by exact rfl) ?_ | fail
 refine cd (by exact rfl) (fun hb => ?_) (fun hb => ?_)
 · have h0 : 0 < y := by have := oR hb; omega
   obtain ⟨k, rfl⟩ : ∃ k, y = k + 1 := ⟨y - 1, by omega⟩
   obtain ⟨x, hx⟩ : ∃ x, l[k]? = some x := ⟨_, gE (by omega)⟩
   have hk : ((k + 1 : Nat) : Int) - 1 = (k : Int) := by omega
   rw [hk]
   repeat' first | refine st (by exact rfl) ?_ | fail
   refine el (by exact rfl) (gv_get hx) ?_ (by omega)
   repeat' first | refine st (by exact rfl) ?_ | fail
   have hst : lastF nm l (k + 1) = if x.nm = nm then (k : Int) else lastF nm l k := by rw [lastF, hx]
   refine cd (by exact rfl) (fun hb2 => ?_) (fun hb2 => ?_)
   · repeat' first | refine st (by exact rfl) ?_ | fail
     refine Z91 ?_
     repeat' first | refine st (by exact rfl) ?_ | fail
     exact en (by exact rfl) (by rw [hy, hst, if_pos (by simpa using hb2)])
   · repeat' first | refine st (by exact rfl) ?_ | fail
     have hw : IntKind.i64.wrap ((k : Int) - 1) = (k : Int) - 1 := wrap_i64 (by omega) (by omega)
     rw [hw]
     exact toL (hn _ k ⟨by rw [hy, hst, if_neg (by simpa using hb2)], by omega⟩ (by omega) le_of)
 · have h0 : y = 0 := by have := of_decide_eq_false hb; omega
   subst h0
   repeat' first | refine st (by exact rfl) ?_ | fail
   refine Z68 ?_
   repeat' first | refine st (by exact rfl) ?_ | fail
   exact en (by exact rfl) (by rw [hy]; rfl)
end
section
def toLc (x : Gv) : Lc := ⟨x.nm, x.ty, x.con, 0, 0⟩
def nmR (p : Pg) (gl ls : List Gv) : Nm := ⟨p, gl, (ls.map toLc).reverse⟩
def scD (p : Pg) (gl ls : List Gv) : D := .agg [.sl (p.globals.map Tr.d), .sl (p.procs.map Pc.d), .sl (gl.map Gv.d), .sl (ls.map Gv.d)]
theorem lastF_spec (nm : ByteArray) (l : List Gv) : ∀ k, k ≤ l.length → (lastF nm l k = -1 ∧ findL nm ((l.take k).map toLc).reverse = []) ∨ ∃ (j : Nat) (x : Gv), lastF nm l k = (j : Int) ∧ l[j]? = some x ∧ ∃ r, findL nm ((l.take k).map toLc).reverse = toLc x :: r
 | 0, _ => .inl ⟨rfl, rfl⟩
 | k + 1, h => by
  obtain ⟨x, hx⟩ : ∃ x, l[k]? = some x := ⟨_, gE (by omega)⟩
  rw [lastF, hx, List.take_add_one, hx]
  dsimp only [Option.toList_some]
  rw [List.map_append, List.reverse_append]
  show (_ ∧ findL nm (toLc x :: ((l.take k).map toLc).reverse) = []) ∨ ∃ (j : Nat) (y : Gv), _ ∧ _ ∧ ∃ r, findL nm (toLc x :: ((l.take k).map toLc).reverse) = toLc y :: r
  rw [findL]
  by_cases hn : x.nm = nm
  · rw [if_pos hn]
    exact .inr ⟨k, x, rfl, hx, ((l.take k).map toLc).reverse, if_pos (show (toLc x).nm = nm from hn)⟩
  · rw [if_neg hn, if_neg (show ¬ (toLc x).nm = nm from hn)]
    exact lastF_spec nm l k (by omega)
theorem look_R (p : Pg) (gl ls : List Gv) (nm : ByteArray) : (lastF nm ls ls.length = -1 ∧ lookN (nmR p gl ls) nm = gl.find? fun x => decide (x.nm = nm)) ∨ ∃ (j : Nat) (x : Gv), lastF nm ls ls.length = (j : Int) ∧ ls[j]? = some x ∧ lookN (nmR p gl ls) nm = some x := by
 have h := lastF_spec nm ls ls.length (Nat.le_refl _)
 rw [List.take_length] at h
 rcases h with ⟨h1, h2⟩ | ⟨j, x, h1, h2, r, h3⟩
 · refine .inl ⟨h1, ?_⟩
   unfold lookN nmR
   dsimp only
   rw [h2]
 · refine .inr ⟨j, x, h1, h2, ?_⟩
   unfold lookN nmR
   dsimp only
   rw [h3]
   rfl
def lookP' : Option Gv → PV
 | some x => .tup [.d x.d, .d (.bool true)]
 | none => .tup [.d zGv, .d (.bool false)]
theorem find_at {gl : List Gv} {z : Nat} {x : Gv} (h : gl[z]? = some x) (p : Gv → Bool) : (gl.drop z).find? p = if p x = true then some x else (gl.drop (z + 1)).find? p := by
 obtain ⟨hz, hk'⟩ := List.getElem?_eq_some_iff.1 h
 rw [List.drop_eq_getElem_cons hz, hk', List.find?_cons]
 cases p x <;> rfl
theorem c147 (p : Pg) (gl ls : List Gv) (nm : ByteArray) (hg : gl.length ≤ 1000000) (hl : ls.length ≤ 1000000) : Pf Tryz.prog 147 [scD p gl ls, .str nm] (lookP' (lookN (nmR p gl ls) nm)) := by
 have q := c127 ls nm hl
 unfold scD
 refine pfb Tryz.func147 Tryz.ntmps147 Tryz.results147 (fun S0 O0 w0 m0 hm0 => ?_)
 repeat' first | refine st (by exact rfl) ?_ | refine cl (by exact rfl) q ?_ | fail
 rcases look_R p gl ls nm with ⟨h1, h2⟩ | ⟨j, x, h1, h2, h3⟩
 · rw [h1]
   repeat' first | refine st (by exact rfl) ?_ | refine cf (by exact rfl) ?_ rfl | fail
   refine gLo (fun y : Nat => ⟨[(1, .d (.str nm)), (2, .ref 0 0), (4, .ref 1 0), (7, .d (.int .i64 (y : Int)))], [[.d (.sl (p.globals.map Tr.d)), .d (.sl (p.procs.map Pc.d)), .d (.sl (gl.map Gv.d)), .d (.sl (ls.map Gv.d))], [.d (.str ⟨#[]⟩), .d (.str ⟨#[]⟩), .d (.bool false)]]⟩) (fun y => gl.length - y) (fun y => lookN (nmR p gl ls) nm = (gl.drop y).find? fun x => decide (x.nm = nm)) 0 h2 le_of (fun y hy Q' hn he hr hp => ?_)
   have hlen : (gl.map Gv.d).length = gl.length := List.length_map ..
   repeat' first | refine st (by exact rfl) ?_ | fail
   refine cd (by exact rfl) (fun hb => ?_) (fun hb => ?_)
   · have hlt : y < gl.length := by have := oR hb; omega
     obtain ⟨x, hx⟩ : ∃ x, gl[y]? = some x := ⟨_, gE hlt⟩
     rw [find_at hx] at hy
     repeat' first | refine st (by exact rfl) ?_ | fail
     refine el (by exact rfl) (gv_get hx) ?_ (by omega)
     repeat' first | refine st (by exact rfl) ?_ | fail
     refine cd (by exact rfl) (fun hb2 => ?_) (fun hb2 => ?_)
     · rw [if_pos hb2] at hy
       repeat' first | refine st (by exact rfl) ?_ | fail
       refine el (by exact rfl) (gv_get hx) ?_ (by omega)
       repeat' first | refine st (by exact rfl) ?_ | fail
       refine Z91 ?_
       repeat' first | refine st (by exact rfl) ?_ | fail
       exact en (by exact rfl) (by rw [hy]; rfl)
     · rw [if_neg (by rw [hb2]; decide)] at hy
       repeat' first | refine st (by exact rfl) ?_ | fail
       rw [wrap_succ (by omega)]
       exact toL (hn _ (y + 1) hy (by omega) le_of)
   · have hlt : gl.length ≤ y := by have := of_decide_eq_false hb; omega
     rw [List.drop_eq_nil_of_le hlt] at hy
     repeat' first | refine st (by exact rfl) ?_ | fail
     refine Z68 ?_
     repeat' first | refine st (by exact rfl) ?_ | fail
     exact en (by exact rfl) (by rw [hy]; rfl)
 · rw [h1, h3]
   repeat' first | refine st (by exact rfl) ?_ | fail
   refine ct (by exact rfl) ?_ (by simp)
   repeat' first | refine st (by exact rfl) ?_ | fail
   refine el (by exact rfl) (gv_get h2) ?_ (by omega)
   repeat' first | refine st (by exact rfl) ?_ | fail
   exact Y1
set_option maxHeartbeats 4000000 in
theorem c150_5a (nm : ByteArray) (num : Int) (ks : List D) (a : ByteArray) (h : nm = ⟨#[45]⟩) : Pf Tryz.prog 150 [.agg [.int .i64 5, .str nm, .int .i64 num, .sl ks], .sl [.str a]] (.tup [.d (.str sInt), .d (.bool (decide (a = sInt)))]) := by
 refine pfb Tryz.func150 Tryz.ntmps150 Tryz.results150 (fun S0 O0 w0 m0 hm0 => ?_)
 subst h
 repeat' first | refine st (by exact rfl) ?_ | refine ct (by exact rfl) ?_ rfl | refine cf (by exact rfl) ?_ rfl | refine el (by exact rfl) rfl ?_ (by decide) | fail
 refine Z27 ?_;refine Z3 ?_;refine Z36 ?_;refine Z148 ?_;refine Z28 ?_
 repeat' first | refine st (by exact rfl) ?_ | refine ct (by exact rfl) ?_ rfl | refine cf (by exact rfl) ?_ rfl | refine el (by exact rfl) rfl ?_ (by decide) | fail
 exact Y1
set_option maxHeartbeats 4000000 in
theorem c150_5b (nm : ByteArray) (num : Int) (ks : List D) (a : ByteArray) (h : ¬ nm = ⟨#[45]⟩) : Pf Tryz.prog 150 [.agg [.int .i64 5, .str nm, .int .i64 num, .sl ks], .sl [.str a]] (.tup [.d (.str sBool), .d (.bool (decide (a = sBool)))]) := by
 refine pfb Tryz.func150 Tryz.ntmps150 Tryz.results150 (fun S0 O0 w0 m0 hm0 => ?_)
 repeat' first | refine st (by exact rfl) ?_ | refine ct (by exact rfl) ?_ rfl | refine cf (by exact rfl) ?_ rfl | refine cf (by exact rfl) ?_ (decide_eq_false h) | fail
 refine Z27 ?_;refine Z3 ?_;refine Z36 ?_;refine Z148 ?_;refine Z28 ?_
 repeat' first | refine st (by exact rfl) ?_ | refine ct (by exact rfl) ?_ rfl | refine cf (by exact rfl) ?_ rfl | refine el (by exact rfl) rfl ?_ (by decide) | fail
 exact Y1
theorem c150_6 (nm : ByteArray) (num : Int) (ks : List D) (l : List ByteArray) (hl : l.length ≤ 1000000) : Pf Tryz.prog 150 [.agg [.int .i64 6, .str nm, .int .i64 num, .sl ks], .sl (l.map .str)] (.tup [.d (.str (biR nm l).1), .d (.bool (biR nm l).2)]) := by
 refine pfb Tryz.func150 Tryz.ntmps150 Tryz.results150 (fun S0 O0 w0 m0 hm0 => ?_)
 repeat' first | refine st (by exact rfl) ?_ | refine ct (by exact rfl) ?_ rfl | refine cf (by exact rfl) ?_ rfl | refine cl (by exact rfl) (c225 nm l hl) ?_ | fail
 exact Y1
theorem c150_7 (nm : ByteArray) (num : Int) (ks : List D) (l : List ByteArray) (hl : l.length ≤ 1000000) : Pf Tryz.prog 150 [.agg [.int .i64 7, .str nm, .int .i64 num, .sl ks], .sl (l.map .str)] (.tup [.d (.str sRange), .d (.bool (allR l 0 sInt))]) := by
 refine pfb Tryz.func150 Tryz.ntmps150 Tryz.results150 (fun S0 O0 w0 m0 hm0 => ?_)
 repeat' first | refine st (by exact rfl) ?_ | refine ct (by exact rfl) ?_ rfl | refine cf (by exact rfl) ?_ rfl | refine cl (by exact rfl) (c226 l 0 sInt hl (by decide)) ?_ | fail
 exact Y1
set_option maxHeartbeats 4000000 in
theorem c150_8 (nm : ByteArray) (num : Int) (ks : List D) (a b : ByteArray) : Pf Tryz.prog 150 [.agg [.int .i64 8, .str nm, .int .i64 num, .sl ks], .sl [.str a, .str b]] (.tup [.d (.str sRange), .d (.bool (decide (a = sRange) && decide (b = sInt)))]) := by
 refine pfb Tryz.func150 Tryz.ntmps150 Tryz.results150 (fun S0 O0 w0 m0 hm0 => ?_)
 repeat' first | refine st (by exact rfl) ?_ | refine ct (by exact rfl) ?_ rfl | refine cf (by exact rfl) ?_ rfl | refine el (by exact rfl) rfl ?_ (by decide) | fail
 refine Z27 ?_;refine Z3 ?_;refine Z36 ?_;refine Z148 ?_;refine Z47 ?_;refine Z148 ?_;refine Z138 ?_
 repeat' first | refine st (by exact rfl) ?_ | refine ct (by exact rfl) ?_ rfl | refine cf (by exact rfl) ?_ rfl | refine el (by exact rfl) rfl ?_ (by decide) | fail
 exact Y1
set_option maxHeartbeats 4000000 in
theorem c150_9 (nm : ByteArray) (num : Int) (ks : List D) (a b : ByteArray) : Pf Tryz.prog 150 [.agg [.int .i64 9, .str nm, .int .i64 num, .sl ks], .sl [.str a, .str b]] (.tup [.d (.str sRange), .d (.bool (decide (a = sRange) && decide (b = sInt)))]) := by
 refine pfb Tryz.func150 Tryz.ntmps150 Tryz.results150 (fun S0 O0 w0 m0 hm0 => ?_)
 repeat' first | refine st (by exact rfl) ?_ | refine ct (by exact rfl) ?_ rfl | refine cf (by exact rfl) ?_ rfl | refine el (by exact rfl) rfl ?_ (by decide) | fail
 refine Z27 ?_;refine Z3 ?_;refine Z36 ?_;refine Z148 ?_;refine Z47 ?_;refine Z148 ?_;refine Z138 ?_
 repeat' first | refine st (by exact rfl) ?_ | refine ct (by exact rfl) ?_ rfl | refine cf (by exact rfl) ?_ rfl | refine el (by exact rfl) rfl ?_ (by decide) | fail
 exact Y1
set_option maxHeartbeats 4000000 in
theorem c150_10a (nm : ByteArray) (num : Int) (ks : List D) (a : ByteArray) : Pf Tryz.prog 150 [.agg [.int .i64 10, .str nm, .int .i64 num, .sl ks], .sl [.str a]] (.tup [.d (.str sDom1), .d (.bool (allR [a] 0 sRange))]) := by
 refine pfb Tryz.func150 Tryz.ntmps150 Tryz.results150 (fun S0 O0 w0 m0 hm0 => ?_)
 repeat' first | refine st (by exact rfl) ?_ | refine ct (by exact rfl) ?_ rfl | refine cf (by exact rfl) ?_ rfl | refine el (by exact rfl) rfl ?_ (by decide) | fail
 refine Z27 ?_
 refine onl (hc := ?_)
 refine Z129 ?_;refine Z36 ?_;refine Z129 ?_
 refine oc (hcl := c226 [a] 0 sRange (by simp) (by decide)) (hc := ?_)
 refine Z129 ?_;refine Z28 ?_
 repeat' first | refine st (by exact rfl) ?_ | refine ct (by exact rfl) ?_ rfl | refine cf (by exact rfl) ?_ rfl | refine el (by exact rfl) rfl ?_ (by decide) | fail
 exact Y1
set_option maxHeartbeats 4000000 in
theorem c150_10b (nm : ByteArray) (num : Int) (ks : List D) (a b : ByteArray) : Pf Tryz.prog 150 [.agg [.int .i64 10, .str nm, .int .i64 num, .sl ks], .sl [.str a, .str b]] (.tup [.d (.str sDom2), .d (.bool (allR [a, b] 0 sRange))]) := by
 refine pfb Tryz.func150 Tryz.ntmps150 Tryz.results150 (fun S0 O0 w0 m0 hm0 => ?_)
 repeat' first | refine st (by exact rfl) ?_ | refine ct (by exact rfl) ?_ rfl | refine cf (by exact rfl) ?_ rfl | refine el (by exact rfl) rfl ?_ (by decide) | fail
 refine Z27 ?_
 refine onl (hc := ?_)
 refine Z129 ?_;refine Z36 ?_;refine Z129 ?_
 refine oc (hcl := c226 [a,b] 0 sRange (by simp) (by decide)) (hc := ?_)
 refine Z129 ?_;refine Z28 ?_
 repeat' first | refine st (by exact rfl) ?_ | refine ct (by exact rfl) ?_ rfl | refine cf (by exact rfl) ?_ rfl | refine el (by exact rfl) rfl ?_ (by decide) | fail
 exact Y1
set_option maxHeartbeats 4000000 in
theorem c150_11 (nm : ByteArray) (num : Int) (ks : List D) (a : ByteArray) (r : List ByteArray) (hl : r.length ≤ 1000) : Pf Tryz.prog 150 [.agg [.int .i64 11, .str nm, .int .i64 num, .sl ks], .sl (.str a :: r.map .str)] (.tup [.d (.str a), .d (.bool (isDomB a && allR (a :: r) 1 sInt))]) := by
 refine pfb Tryz.func150 Tryz.ntmps150 Tryz.results150 (fun S0 O0 w0 m0 hm0 => ?_)
 repeat' first | refine st (by exact rfl) ?_ | refine ct (by exact rfl) ?_ rfl | refine cf (by exact rfl) ?_ rfl | refine el (by exact rfl) rfl ?_ (by decide) | fail
 refine Z27 ?_;refine Z3 ?_;refine Z36 ?_;refine Z129 ?_;refine Z36 ?_;refine Z3 ?_
 refine oc (hcl := c211 a) (hc := ?_)
 refine Z129 ?_
 refine ocg (hcl := fun _ => c226 (a :: r) 1 sInt (by simp; omega) (by decide)) (hc := ?_)
 refine Z129 ?_;refine Z138 ?_
 repeat' first | refine st (by exact rfl) ?_ | refine ct (by exact rfl) ?_ rfl | refine cf (by exact rfl) ?_ rfl | refine el (by exact rfl) rfl ?_ (by decide) | fail
 exact Y1
set_option maxHeartbeats 4000000 in
theorem c150_12a (nm : ByteArray) (num : Int) (ks : List D) (a b : ByteArray) : Pf Tryz.prog 150 [.agg [.int .i64 12, .str nm, .int .i64 num, .sl ks], .sl [.str a, .str b]] (.tup [.d (.str sInt), .d (.bool (decide (a = sArr1) && allR [a, b] 1 sInt))]) := by
 refine pfb Tryz.func150 Tryz.ntmps150 Tryz.results150 (fun S0 O0 w0 m0 hm0 => ?_)
 repeat' first | refine st (by exact rfl) ?_ | refine ct (by exact rfl) ?_ rfl | refine cf (by exact rfl) ?_ rfl | refine el (by exact rfl) rfl ?_ (by decide) | fail
 refine Z27 ?_;refine Z3 ?_;refine Z36 ?_;refine Z3 ?_
 refine onl (hc := ?_)
 refine Z129 ?_;refine Z36 ?_;refine Z148 ?_
 refine ocg (hcl := fun _ => c226 [a,b] 1 sInt (by simp) (by decide)) (hc := ?_)
 refine Z129 ?_;refine Z138 ?_
 repeat' first | refine st (by exact rfl) ?_ | refine ct (by exact rfl) ?_ rfl | refine cf (by exact rfl) ?_ rfl | refine el (by exact rfl) rfl ?_ (by decide) | fail
 exact Y1
set_option maxHeartbeats 4000000 in
theorem c150_12b (nm : ByteArray) (num : Int) (ks : List D) (a b c : ByteArray) : Pf Tryz.prog 150 [.agg [.int .i64 12, .str nm, .int .i64 num, .sl ks], .sl [.str a, .str b, .str c]] (.tup [.d (.str sInt), .d (.bool (decide (a = sArr2) && allR [a, b, c] 1 sInt))]) := by
 refine pfb Tryz.func150 Tryz.ntmps150 Tryz.results150 (fun S0 O0 w0 m0 hm0 => ?_)
 repeat' first | refine st (by exact rfl) ?_ | refine ct (by exact rfl) ?_ rfl | refine cf (by exact rfl) ?_ rfl | refine el (by exact rfl) rfl ?_ (by decide) | fail
 refine Z27 ?_;refine Z3 ?_;refine Z36 ?_;refine Z3 ?_
 refine onl (hc := ?_)
 refine Z129 ?_;refine Z36 ?_;refine Z148 ?_
 refine ocg (hcl := fun _ => c226 [a,b,c] 1 sInt (by simp) (by decide)) (hc := ?_)
 refine Z129 ?_;refine Z138 ?_
 repeat' first | refine st (by exact rfl) ?_ | refine ct (by exact rfl) ?_ rfl | refine cf (by exact rfl) ?_ rfl | refine el (by exact rfl) rfl ?_ (by decide) | fail
 exact Y1
set_option maxHeartbeats 4000000 in
theorem c150_14 (nm : ByteArray) (num : Int) (ks : List D) (a : ByteArray) : Pf Tryz.prog 150 [.agg [.int .i64 14, .str nm, .int .i64 num, .sl ks], .sl [.str a]] (.tup [.d (.str (fieldR nm a).1), .d (.bool ((fieldR nm a).2))]) := by
 refine pfb Tryz.func150 Tryz.ntmps150 Tryz.results150 (fun S0 O0 w0 m0 hm0 => ?_)
 repeat' first | refine st (by exact rfl) ?_ | refine ct (by exact rfl) ?_ rfl | refine cf (by exact rfl) ?_ rfl | refine el (by exact rfl) rfl ?_ (by decide) | fail
 refine Z27 ?_;refine Z129 ?_;refine Z3 ?_;refine Z36 ?_;refine Z3 ?_
 refine oc (hcl := c227 nm a) (hc := ?_)
 refine Z148 ?_;refine Z28 ?_
 repeat' first | refine st (by exact rfl) ?_ | refine ct (by exact rfl) ?_ rfl | refine cf (by exact rfl) ?_ rfl | refine el (by exact rfl) rfl ?_ (by decide) | fail
 exact Y1
set_option maxHeartbeats 4000000 in
theorem c150_15 (nm : ByteArray) (num : Int) (ks : List D) (a : ByteArray) (r : List ByteArray) (hl : r.length ≤ 1000) : Pf Tryz.prog 150 [.agg [.int .i64 15, .str nm, .int .i64 num, .sl ks], .sl (.str a :: r.map .str)] (.tup [.d (.str (methR nm).2.2), .d (.bool (decide (a = (methR nm).2.1) && allR (a :: r) 1 sInt))]) := by
 refine pfb Tryz.func150 Tryz.ntmps150 Tryz.results150 (fun S0 O0 w0 m0 hm0 => ?_)
 repeat' first | refine st (by exact rfl) ?_ | refine ct (by exact rfl) ?_ rfl | refine cf (by exact rfl) ?_ rfl | refine cl (by exact rfl) (c228 nm) ?_ | refine el (by exact rfl) rfl ?_ (by decide) | refine clg (by exact rfl) (fun _ => c226 (a :: r) 1 sInt (by simp; omega) (by decide)) ?_ | fail
 exact Y1
set_option maxHeartbeats 4000000 in
theorem c150_18 (nm : ByteArray) (num : Int) (ks : List D) (a : ByteArray) : Pf Tryz.prog 150 [.agg [.int .i64 18, .str nm, .int .i64 num, .sl ks], .sl [.str a]] (.tup [.d (.str sInt), .d (.bool ((decide (a = sRange) || decide (a = sDom1)) || isArrB a))]) := by
 refine pfb Tryz.func150 Tryz.ntmps150 Tryz.results150 (fun S0 O0 w0 m0 hm0 => ?_)
 repeat' first | refine st (by exact rfl) ?_ | refine ct (by exact rfl) ?_ rfl | refine cf (by exact rfl) ?_ rfl | refine el (by exact rfl) rfl ?_ (by decide) | refine elg (.str a) (by exact rfl) (fun _ => ⟨by decide, by rfl, by rfl⟩) ?_ | refine clg (by exact rfl) (fun _ => c213 a) ?_ | fail
 exact Y1
set_option maxHeartbeats 8000000 in
theorem c150_19 (nm : ByteArray) (num : Int) (ks : List D) (a b c : ByteArray) : Pf Tryz.prog 150 [.agg [.int .i64 19, .str nm, .int .i64 num, .sl ks], .sl [.str a, .str b, .str c]] (.tup [.d (.str b), .d (.bool ((decide (a = sBool) && decide (b = c)) && (((decide (b = sInt) || decide (b = sBool)) || decide (b = sRange)) || isDomB b)))]) := by
 refine pfb Tryz.func150 Tryz.ntmps150 Tryz.results150 (fun S0 O0 w0 m0 hm0 => ?_)
 repeat' first | refine st (by exact rfl) ?_ | refine ct (by exact rfl) ?_ rfl | refine cf (by exact rfl) ?_ rfl | refine el (by exact rfl) rfl ?_ (by decide) | fail
 refine Z27 ?_;refine Z3 ?_;refine Z36 ?_;refine Z129 ?_;refine Z36 ?_;refine Z148 ?_;refine Z47 ?_;refine Z129 ?_
 refine oig (.str c) (hd := fun _ => ⟨by decide, by rfl, by rfl⟩) (hc := ?_)
 refine Z148 ?_;refine Z3 ?_;refine Z47 ?_;refine Z148 ?_;refine Z47 ?_;refine Z148 ?_;refine Z3 ?_;refine Z47 ?_;refine Z148 ?_;refine Z3 ?_;refine Z47 ?_;refine Z3 ?_
 refine ocg (hcl := fun _ => c211 b) (hc := ?_)
 refine Z148 ?_;refine Z28 ?_
 repeat' first | refine st (by exact rfl) ?_ | refine ct (by exact rfl) ?_ rfl | refine cf (by exact rfl) ?_ rfl | refine el (by exact rfl) rfl ?_ (by decide) | fail
 exact Y1
theorem c150 (op : Int) (nm : ByteArray) (num : Int) (ks : List Tr) (l : List ByteArray) (hl : l.length = ks.length) (he : isExprB op = true) (hn : op ≠ 1 ∧ op ≠ 2 ∧ op ≠ 4 ∧ op ≠ 13 ∧ op ≠ 16 ∧ op ≠ 17) (hr : rightB (.mk op nm num ks) = true) : Pf Tryz.prog 150 [.agg [.int .i64 op, .str nm, .int .i64 num, .sl (ks.map Tr.d)], .sl (l.map .str)] (.tup [.d (.str (opR op nm l).1), .d (.bool (opR op nm l).2)]) := by
 have ho : op = 5 ∨ op = 6 ∨ op = 7 ∨ op = 8 ∨ op = 9 ∨ op = 10 ∨ op = 11 ∨ op = 12 ∨ op = 14 ∨ op = 15 ∨ op = 18 ∨ op = 19 := by
  unfold isExprB at he
  simp only [Bool.and_eq_true, decide_eq_true_eq, bne_iff_ne, ne_eq] at he
  omega
 rcases ho with rfl | rfl | rfl | rfl | rfl | rfl | rfl | rfl | rfl | rfl | rfl | rfl
 · rw [right5, Bool.and_eq_true] at hr
   obtain ⟨a, rfl⟩ := ln1 (hl.trans (kw1 hr.2))
   by_cases h : nm = ⟨#[45]⟩
   · have := c150_5a nm num (ks.map Tr.d) a h
     rw [show opR 5 nm [a] = (sInt, decide (a = sInt)) from if_pos h]; exact this
   · have := c150_5b nm num (ks.map Tr.d) a h
     rw [show opR 5 nm [a] = (sBool, decide (a = sBool)) from if_neg h]; exact this
 · rw [right6, Bool.and_eq_true] at hr
   obtain ⟨a, b, rfl⟩ := ln2 (hl.trans (kw2 hr.2))
   exact c150_6 nm num _ [a, b] (by simp)
 · rw [right7, Bool.and_eq_true] at hr
   obtain ⟨a, b, rfl⟩ := ln2 (hl.trans (kw2 hr.2))
   exact c150_7 nm num _ [a, b] (by simp)
 · rw [right8, Bool.and_eq_true] at hr
   obtain ⟨a, b, rfl⟩ := ln2 (hl.trans (kw2 hr.2))
   exact c150_8 nm num _ a b
 · rw [right9, Bool.and_eq_true] at hr
   obtain ⟨a, b, rfl⟩ := ln2 (hl.trans (kw2 hr.2))
   exact c150_9 nm num _ a b
 · rw [right10, Bool.and_eq_true, Bool.or_eq_true] at hr
   rcases hr.2 with h | h
   · obtain ⟨a, rfl⟩ := ln1 (hl.trans (kw1 h))
     exact c150_10a nm num _ a
   · obtain ⟨a, b, rfl⟩ := ln2 (hl.trans (kw2 h))
     exact c150_10b nm num _ a b
 · have hl0 : 0 < l.length ∧ l.length ≤ 2 := by
    rw [right11] at hr
    rw [hl]
    split at hr <;> rw [Bool.and_eq_true] at hr
    · rw [kw2 hr.2]; decide
    · rw [kw1 hr.2]; decide
   obtain ⟨a, r, rfl⟩ := lnS hl0.1
   exact c150_11 nm num _ a r (by have := hl0.2; simp at this; omega)
 · rw [right12, Bool.and_eq_true, Bool.or_eq_true] at hr
   rcases hr.2 with h | h
   · obtain ⟨a, b, rfl⟩ := ln2 (hl.trans (kw2 h))
     exact c150_12a nm num _ a b
   · obtain ⟨a, b, c, rfl⟩ := ln3 (hl.trans (kw3 h))
     exact c150_12b nm num _ a b c
 · rw [right14, Bool.and_eq_true] at hr
   obtain ⟨a, rfl⟩ := ln1 (hl.trans (kw1 hr.2))
   exact c150_14 nm num _ a
 · rw [right15] at hr
   simp only [Bool.and_eq_true, decide_eq_true_eq] at hr
   obtain ⟨⟨h0, _⟩, hk⟩ := hr
   have hl0 : 0 < l.length ∧ l.length ≤ 3 := by
    rw [hl]
    have h2 := methR_le nm
    have hm : ((methR nm).1 + 1).toNat = 1 ∨ ((methR nm).1 + 1).toNat = 2 ∨ ((methR nm).1 + 1).toNat = 3 := by omega
    rcases hm with h | h | h <;> rw [h] at hk <;> rw [kidsB_len hk] <;> decide
   obtain ⟨a, r, rfl⟩ := lnS hl0.1
   exact c150_15 nm num _ a r (by have := hl0.2; simp at this; omega)
 · rw [right18, Bool.and_eq_true] at hr
   obtain ⟨a, rfl⟩ := ln1 (hl.trans (kw1 hr.2))
   exact c150_18 nm num _ a
 · rw [right19, Bool.and_eq_true] at hr
   obtain ⟨a, b, c, rfl⟩ := ln3 (hl.trans (kw3 hr.2))
   exact c150_19 nm num _ a b c
end
section
def outR : Except Int ByteArray → PV
 | .ok s => .tup [.d (.str s), .d (.int .i64 0)]
 | .error e => .tup [.d (.str ⟨#[]⟩), .d (.int .i64 e)]
def outRk : Except Int (List ByteArray) → PV
 | .ok l => .tup [.d (.sl (l.map .str)), .d (.int .i64 0)]
 | .error e => .tup [.d (.sl []), .d (.int .i64 e)]
variable {n : Nm}
theorem kidsT_err : ∀ {ks : List Tr} {e : Int}, (∀ k ∈ ks, ∀ e, typeT n k false = .error e → e ≠ 0) → kidsT n ks = .error e → e ≠ 0
 | [], _, _, h => by rw [kidsT] at h; cases h
 | k :: r, e, ih, h => by
  rw [kidsT] at h
  cases h1 : typeT n k false with
  | error e' => rw [h1] at h; injection h with h; subst h; exact ih k (.head _) _ h1
  | ok t =>
   rw [h1] at h
   cases h2 : kidsT n r with
   | error e' => rw [h2] at h; injection h with h; subst h; exact kidsT_err (fun k hk => ih k (.tail _ hk)) h2
   | ok l => rw [h2] at h; cases h
theorem argsT_err : ∀ {ks : List Tr} {e : Int}, (∀ k ∈ ks, ∀ e, typeT n k false = .error e → e ≠ 0) → argsT n ks = .error e → e ≠ 0
 | [], _, _, h => by rw [argsT] at h; cases h
 | k :: r, e, ih, h => by
  rw [argsT] at h
  split at h
  · injection h with h; subst h; decide
  cases h1 : typeT n k false with
  | error e' => rw [h1] at h; injection h with h; subst h; exact ih k (.head _) _ h1
  | ok t =>
   rw [h1] at h
   cases h2 : argsT n r with
   | error e' => rw [h2] at h; injection h with h; subst h; exact argsT_err (fun k hk => ih k (.tail _ hk)) h2
   | ok l => rw [h2] at h; cases h
theorem callT_err {p : Pg} {nm : ByteArray} {b : Bool} {l : List ByteArray} {e : Int} (h : callT p nm b l = .error e) : e ≠ 0 := by
 unfold callT at h
 split at h
 · injection h with h; subst h; decide
 · split at h
   · injection h with h; subst h; decide
   · unfold callQ at h
     repeat' split at h
     all_goals first | (injection h with h; subst h; decide) | (cases h; done) | fail
theorem opE_err {t : ByteArray} {e : Int} (h : opE t = .error e) : e ≠ 0 := by
 unfold opE at h
 split at h
 · injection h with h; subst h; decide
 · cases h
theorem typeT_err : ∀ (sz : Nat) (t : Tr), t.size ≤ sz → ∀ b e, typeT n t b = .error e → e ≠ 0 := by
 intro sz
 induction sz with
 | zero => intro t h; exact absurd t.size_pos (by omega)
 | succ sz ih =>
  intro t hsz b e h
  obtain ⟨op, nm, num, ks⟩ := t
  have hkd : ∀ k ∈ ks, ∀ e, typeT n k false = .error e → e ≠ 0 := fun k hk e he => by
   have := Tr.size_mem hk
   rw [Tr.size] at hsz
   exact ih k (by omega) false e he
  rw [typeT] at h
  split at h
  · cases h
  split at h
  · cases h
  split at h
  · cases hf : lookN n nm with
    | none => rw [hf] at h; injection h with h; subst h; decide
    | some x => rw [hf] at h; cases h
  split at h
  · cases ha : argsT n ks with
    | error e' => rw [ha] at h; injection h with h; subst h; exact argsT_err hkd ha
    | ok l => rw [ha] at h; exact callT_err h
  · cases ha : kidsT n ks with
    | error e' => rw [ha] at h; injection h with h; subst h; exact kidsT_err hkd ha
    | ok l => rw [ha] at h; exact opE_err h
theorem c149 (p : Pg) (gl ls : List Gv) (ks : List Tr) (hl : ks.length ≤ 1000000) (hk : ∀ k ∈ ks, Pf Tryz.prog 82 [scD p gl ls, k.d, .bool false] (outR (typeT (nmR p gl ls) k false))) :
 Pf Tryz.prog 149 [scD p gl ls, .sl (ks.map Tr.d)] (outRk (kidsT (nmR p gl ls) ks)) := by
 unfold scD at *
 refine pfb Tryz.func149 Tryz.ntmps149 Tryz.results149 (fun S0 O0 w0 m0 hm0 => ?_)
 repeat' first | refine st (by exact rfl) ?_ | refine bs (by exact rfl) ?_ | fail
 refine gLo (fun y : List D × Nat => ⟨[(1, .d (.sl (ks.map Tr.d))), (2, .ref 0 0), (6, .osl 1 y.1), (7, .d (.int .i64 (y.2 : Int)))], [[.d (.sl (p.globals.map Tr.d)), .d (.sl (p.procs.map Pc.d)), .d (.sl (gl.map Gv.d)), .d (.sl (ls.map Gv.d))]]⟩) (fun y => ks.length - y.2) (fun y => kidsI (nmR p gl ls) ks y.1 y.2) ([], 0) ⟨[], rfl, rfl, Nat.zero_le _, fun e he => he, fun l hl => hl⟩ le_of (fun y hy Q' hn he hr hp => ?_)
 obtain ⟨xs, z⟩ := y
 dsimp only at hy
 have hlen : (ks.map Tr.d).length = ks.length := List.length_map ..
 repeat' first | refine st (by exact rfl) ?_ | fail
 refine cd (by exact rfl) (fun hb => ?_) (fun hb => ?_)
 · have hz : z < ks.length := by have := oR hb; omega
   obtain ⟨k, hkz⟩ : ∃ k, ks[z]? = some k := ⟨ks[z], gE hz⟩
   have q := hk k (mG hkz)
   have hxd := Tr.ds_get hkz
   obtain ⟨kop, knm, knu, kks, hka⟩ := k.d_agg
   rw [hka] at q hxd
   have hlx : xs.length = z := by obtain ⟨done, h1, h2, _⟩ := hy; rw [h1, List.length_map]; exact h2
   repeat' first | refine st (by exact rfl) ?_ | fail
   cases ht : typeT (nmR p gl ls) k false with
   | error e =>
    rw [ht] at q
    have hne := typeT_err k.size k (Nat.le_refl _) false e ht
    dsimp only [outR] at q
    refine Z27 ?_;refine Z129 ?_;refine Z3 ?_;refine Z106 ?_;refine Z3 ?_;refine Z78 ?_;refine Z148 ?_;refine Z138 ?_
    repeat' first | refine st (by exact rfl) ?_ | fail
    refine ct (by exact rfl) ?_ (by simpa using hne)
    repeat' first | refine st (by exact rfl) ?_ | fail
    refine Z91 ?_
    repeat' first | refine st (by exact rfl) ?_ | fail
    exact en (by exact rfl) (by rw [kidsI_err hy hkz ht]; rfl)
   | ok t =>
    rw [ht] at q
    dsimp only [outR] at q
    refine Z27 ?_;refine Z129 ?_;refine Z3 ?_;refine Z106 ?_;refine Z3 ?_;refine Z78 ?_;refine Z148 ?_;refine Z138 ?_
    repeat' first | refine st (by exact rfl) ?_ | fail
    refine cf (by exact rfl) ?_ rfl
    repeat' first | refine st (by exact rfl) ?_ | refine bs (by exact rfl) ?_ | refine ap (by exact rfl) ?_ | fail
    rw [wrap_succ (by omega)]
    exact Y6
 · obtain ⟨done, hx, hdl, hkd⟩ := kidsI_end hy (by have := of_decide_eq_false hb; omega)
   repeat' first | refine st (by exact rfl) ?_ | fail
   refine Z68 ?_
   repeat' first | refine st (by exact rfl) ?_ | fail
   exact en (by exact rfl) (by rw [hkd, hx]; rfl)
theorem call_ref {q : Pc} {b : Bool} : ((q.iter && !b) = true) ↔ ((b || !q.iter) = false) := by cases q.iter <;> cases b <;> decide
set_option maxHeartbeats 4000000 in
theorem c148 (p : Pg) (hp0 : p.Ok) (gl ls : List Gv) (op : Int) (nm : ByteArray) (num : Int) (ks : List Tr) (b : Bool) (hl : ks.length ≤ 1000000) (hk : ∀ k ∈ ks, k.op ≠ 30 → Pf Tryz.prog 82 [scD p gl ls, k.d, .bool false] (outR (typeT (nmR p gl ls) k false))) :
 Pf Tryz.prog 148 [scD p gl ls, .agg [.int .i64 op, .str nm, .int .i64 num, .sl (ks.map Tr.d)], .bool b] (outR ((argsT (nmR p gl ls) ks).bind (callT p nm b))) := by
 unfold scD at *
 refine pfb Tryz.func148 Tryz.ntmps148 Tryz.results148 (fun S0 O0 w0 m0 hm0 => ?_)
 repeat' first | refine st (by exact rfl) ?_ | refine bs (by exact rfl) ?_ | fail
 refine gLo (fun y : List D × Nat => ⟨[(2, .d (.bool b)), (3, .ref 0 0), (4, .ref 1 0), (8, .osl 1 y.1), (9, .d (.int .i64 (y.2 : Int)))], [[.d (.sl (p.globals.map Tr.d)), .d (.sl (p.procs.map Pc.d)), .d (.sl (gl.map Gv.d)), .d (.sl (ls.map Gv.d))], [.d (.int .i64 op), .d (.str nm), .d (.int .i64 num), .d (.sl (ks.map Tr.d))]]⟩) (fun y => ks.length - y.2) (fun y => argsI (nmR p gl ls) ks y.1 y.2) ([], 0) ⟨[], rfl, rfl, Nat.zero_le _, fun e he => he, fun l hl => hl⟩ le_of (fun y hy Q' hn he hr hp => ?_)
 obtain ⟨xs, z⟩ := y
 dsimp only at hy
 have hlen : (ks.map Tr.d).length = ks.length := List.length_map ..
 repeat' first | refine st (by exact rfl) ?_ | fail
 refine cd (by exact rfl) (fun hb => ?_) (fun hb => ?_)
 · have hz : z < ks.length := by have := oR hb; omega
   obtain ⟨k, hkz⟩ : ∃ k, ks[z]? = some k := ⟨ks[z], gE hz⟩
   have q := hk k (mG hkz)
   have hxd := Tr.ds_get hkz
   have ho : ∀ kop knm knu kks, k.d = .agg [.int .i64 kop, .str knm, .int .i64 knu, .sl (List.map Tr.d kks)] → k.op = kop := fun kop knm knu kks h => by
    obtain ⟨a, b, c, d⟩ := k
    rw [Tr.d_mk] at h
    injection h with h; injection h with h _; injection h with _ h
   obtain ⟨kop, knm, knu, kks, hka⟩ := k.d_agg
   have ho := ho _ _ _ _ hka
   rw [hka] at q hxd
   have hlx : xs.length = z := by obtain ⟨done, h1, h2, _⟩ := hy; rw [h1, List.length_map]; exact h2
   repeat' first | refine st (by exact rfl) ?_ | fail
   refine el (by exact rfl) hxd ?_ (by omega)
   repeat' first | refine st (by exact rfl) ?_ | fail
   by_cases h30 : kop = 30
   · refine ct (by exact rfl) ?_ (by simpa using h30)
     repeat' first | refine st (by exact rfl) ?_ | fail
     refine Z91 ?_
     repeat' first | refine st (by exact rfl) ?_ | fail
     exact en (by exact rfl) (by rw [argsI_ty hy hkz (ho.trans h30)]; rfl)
   · refine cf (by exact rfl) ?_ (by simpa using h30)
     repeat' first | refine st (by exact rfl) ?_ | fail
     have h30' : k.op ≠ 30 := by rw [ho]; exact h30
     replace q := q h30'
     cases ht : typeT (nmR p gl ls) k false with
     | error e =>
      rw [ht] at q
      have hne := typeT_err k.size k (Nat.le_refl _) false e ht
      dsimp only [outR] at q
      refine Z27 ?_;refine Z148 ?_;refine Z106 ?_;refine Z3 ?_;refine Z78 ?_;refine Z148 ?_;refine Z138 ?_
      repeat' first | refine st (by exact rfl) ?_ | fail
      refine ct (by exact rfl) ?_ (by simpa using hne)
      repeat' first | refine st (by exact rfl) ?_ | fail
      refine Z91 ?_
      repeat' first | refine st (by exact rfl) ?_ | fail
      exact en (by exact rfl) (by rw [argsI_err hy hkz h30' ht]; rfl)
     | ok t =>
      rw [ht] at q
      dsimp only [outR] at q
      refine Z27 ?_;refine Z148 ?_;refine Z106 ?_;refine Z3 ?_;refine Z78 ?_;refine Z148 ?_;refine Z138 ?_
      repeat' first | refine st (by exact rfl) ?_ | fail
      refine cf (by exact rfl) ?_ rfl
      repeat' first | refine st (by exact rfl) ?_ | refine bs (by exact rfl) ?_ | refine ap (by exact rfl) ?_ | fail
      rw [wrap_succ (by omega)]
      exact toL (hn _ (_ ++ [.str t], z + 1) (argsI_ok hy hkz h30' ht) (by dsimp only; omega) le_of)
 · obtain ⟨done, hx, hdl, hkd⟩ := argsI_end hy (by have := of_decide_eq_false hb; omega)
   repeat' first | refine st (by exact rfl) ?_ | fail
   refine Z68 ?_
   repeat' first | refine st (by exact rfl) ?_ | fail
   refine cl (by exact rfl) (c58 p nm hp0.pl) ?_
   repeat' first | refine st (by exact rfl) ?_ | fail
   cases hf : p.procs.findIdx? (fun q => decide (q.nm = nm)) with
   | none =>
    refine ct (by exact rfl) ?_ (by simp [idxL, hf])
    repeat' first | refine st (by exact rfl) ?_ | fail
    exact en (by exact rfl) (by rw [hkd]; simp only [Except.bind, callT, hf, outR])
   | some i =>
    obtain ⟨hi, _⟩ := List.findIdx?_eq_some_iff_getElem.1 hf
    obtain ⟨f, hpi⟩ : ∃ q, p.procs[i]? = some q := ⟨_, gE hi⟩
    have hci : idxL (fun q : Pc => decide (q.nm = nm)) p.procs = (i : Int) := by simp [idxL, hf]
    have hpd : (p.procs.map Pc.d)[(idxL (fun q : Pc => decide (q.nm = nm)) p.procs).toNat]? = some (.agg [.str f.nm, .bool f.iter, .bool f.priv, .sl (f.formals.map Fm.d), .int .i64 f.result.op, .str f.result.nm, .int .i64 f.result.nu, .sl (f.result.kids.map Tr.d), .sl (f.wh.map Tr.d), .sl (f.body.map Tr.d)]) := by
     rw [hci, Int.toNat_natCast, List.getElem?_map, hpi]; rfl
    have hfok := hp0.p f (mG hpi)
    have hfl : f.formals.length ≤ 140737488355328 := hfok.fl
    have hcq : callT p nm b done = callQ f b done := by simp only [callT, hf, hpi]
    refine cf (by exact rfl) ?_ (by rw [hci]; simp)
    repeat' first | refine st (by exact rfl) ?_ | fail
    refine el (by exact rfl) hpd ?_ (by rw [hci]; exact Int.natCast_nonneg i)
    repeat' first | refine st (by exact rfl) ?_ | fail
    have hflen : (f.formals.map Fm.d).length = f.formals.length := List.length_map ..
    have hxl : xs.length = done.length := by rw [hx, List.length_map]
    refine gLo (fun y : Nat => ⟨[(2, .d (.bool b)), (8, .osl 1 xs), (13, .ref 2 0), (14, .d (.int .i64 (y : Int)))], [[.d (.sl (p.globals.map Tr.d)), .d (.sl (p.procs.map Pc.d)), .d (.sl (gl.map Gv.d)), .d (.sl (ls.map Gv.d))], [.d (.int .i64 op), .d (.str nm), .d (.int .i64 num), .d (.sl (ks.map Tr.d))], [.d (.str f.nm), .d (.bool f.iter), .d (.bool f.priv), .d (.sl (f.formals.map Fm.d)), .d (.int .i64 f.result.op), .d (.str f.result.nm), .d (.int .i64 f.result.nu), .d (.sl (f.result.kids.map Tr.d)), .d (.sl (f.wh.map Tr.d)), .d (.sl (f.body.map Tr.d))]]⟩) (fun y => f.formals.length - y) (fun y => y ≤ f.formals.length ∧ ∀ (j : Nat) g, j < y → f.formals[j]? = some g → staticB g = false) 0 ⟨Nat.zero_le _, fun j _ h => absurd h (Nat.not_lt_zero _)⟩ le_of (fun y hy2 Q2 hn2 he2 hr2 hp2 => ?_)
    obtain ⟨hyl, hy2⟩ := hy2
    repeat' first | refine st (by exact rfl) ?_ | fail
    refine cd (by exact rfl) (fun hb2 => ?_) (fun hb2 => ?_)
    · have hlt : y < f.formals.length := by have := oR hb2; omega
      obtain ⟨g, hg⟩ : ∃ g, f.formals[y]? = some g := ⟨_, gE hlt⟩
      repeat' first | refine st (by exact rfl) ?_ | fail
      refine el (by exact rfl) (fm_get hg) ?_ (by omega)
      repeat' first | refine st (by exact rfl) ?_ | fail
      refine cl (by exact rfl) (c214 g) ?_
      repeat' first | refine st (by exact rfl) ?_ | fail
      by_cases hst : staticB g = true
      · refine ct (by exact rfl) ?_ hst
        repeat' first | refine st (by exact rfl) ?_ | fail
        refine toL (hr2 _ ?_)
        repeat' first | refine st (by exact rfl) ?_ | fail
        have hany : f.formals.any staticB = true := List.any_eq_true.2 ⟨g, mG hg, hst⟩
        exact en (by exact rfl) (by rw [hkd]; simp only [Except.bind]; rw [hcq, callQ, if_pos hany]; rfl)
      · refine cf (by exact rfl) ?_ (eq_false_of_ne_true hst)
        repeat' first | refine st (by exact rfl) ?_ | fail
        rw [wrap_succ (by omega)]
        refine toL (hn2 _ (y + 1) ⟨hlt, fun j g' hj hg' => ?_⟩ (by omega) le_of)
        by_cases hjy : j = y
        · subst hjy; rw [hg] at hg'; injection hg' with hg'; subst hg'; exact eq_false_of_ne_true hst
        · exact hy2 j g' (by omega) hg'
    · have hlt : f.formals.length ≤ y := by have := of_decide_eq_false hb2; omega
      have hst : ¬ f.formals.any staticB = true := fun h => by
       obtain ⟨g, hg, hs⟩ := List.any_eq_true.1 h
       obtain ⟨j, hj⟩ := List.getElem?_of_mem hg
       rw [hy2 j g (by have := (lG hj); omega) hj] at hs
       cases hs
      repeat' first | refine st (by exact rfl) ?_ | fail
      refine toL (he2 _ _ ?_)
      repeat' first | refine st (by exact rfl) ?_ | fail
      by_cases hit : (f.iter && !b) = true
      · refine ct (by exact rfl) ?_ hit
        repeat' first | refine st (by exact rfl) ?_ | fail
        exact en (by exact rfl) (by rw [hkd]; simp only [Except.bind]; rw [hcq, callQ, if_neg hst, if_pos (call_ref.1 hit)]; rfl)
      have hit' : ¬ (b || !f.iter) = false := fun h => hit (call_ref.2 h)
      refine cf (by exact rfl) ?_ (eq_false_of_ne_true hit)
      repeat' first | refine st (by exact rfl) ?_ | fail
      by_cases hle : done.length = f.formals.length
      case neg =>
       refine ct (by exact rfl) ?_ (by rw [bne_iff_ne]; omega)
       repeat' first | refine st (by exact rfl) ?_ | fail
       exact en (by exact rfl) (by rw [hkd]; simp only [Except.bind]; rw [hcq, callQ, if_neg hst, if_neg hit', if_pos hle]; rfl)
      refine cf (by exact rfl) ?_ (by rw [bne_eq_false_iff_eq]; omega)
      repeat' first | refine st (by exact rfl) ?_ | fail
      refine gLo (fun z : Nat => ⟨[(8, .osl 1 xs), (13, .ref 2 0), (15, .d (.int .i64 (z : Int)))], [[.d (.sl (p.globals.map Tr.d)), .d (.sl (p.procs.map Pc.d)), .d (.sl (gl.map Gv.d)), .d (.sl (ls.map Gv.d))], [.d (.int .i64 op), .d (.str nm), .d (.int .i64 num), .d (.sl (ks.map Tr.d))], [.d (.str f.nm), .d (.bool f.iter), .d (.bool f.priv), .d (.sl (f.formals.map Fm.d)), .d (.int .i64 f.result.op), .d (.str f.result.nm), .d (.int .i64 f.result.nu), .d (.sl (f.result.kids.map Tr.d)), .d (.sl (f.wh.map Tr.d)), .d (.sl (f.body.map Tr.d))]]⟩) (fun z => done.length - z) (fun z => z ≤ done.length ∧ ∀ (j : Nat) (t : ByteArray) (g : Fm), j < z → done[j]? = some t → f.formals[j]? = some g → t = g.ty.nm) 0 ⟨Nat.zero_le _, fun j _ _ h => absurd h (Nat.not_lt_zero _)⟩ le_of (fun z hz2 Q3 hn3 he3 hr3 hp3 => ?_)
      obtain ⟨hz2, hzp⟩ := hz2
      repeat' first | refine st (by exact rfl) ?_ | fail
      refine cd (by exact rfl) (fun hb3 => ?_) (fun hb3 => ?_)
      · have hzl : z < done.length := by have := oR hb3; omega
        obtain ⟨t, htz⟩ : ∃ t, done[z]? = some t := ⟨_, gE hzl⟩
        obtain ⟨g, hfz⟩ : ∃ g, f.formals[z]? = some g := ⟨_, gE (by omega)⟩
        have hxt : xs[z]? = some (.str t) := by rw [hx, List.getElem?_map, htz]; rfl
        have hfd := fm_get hfz
        repeat' first | refine st (by exact rfl) ?_ | fail
        refine Z27 ?_;refine Z129 ?_
        refine oi (hd := hxt) (hc := ?_)
        refine Z148 ?_
        refine oi (hd := hfd) (hc := ?_)
        refine Z148 ?_;refine Z28 ?_
        repeat' first | refine st (by exact rfl) ?_ | fail
        by_cases htf : t = g.ty.nm
        · refine cf (by exact rfl) ?_ (by simp [htf])
          repeat' first | refine st (by exact rfl) ?_ | fail
          rw [wrap_succ (by omega)]
          refine toL (hn3 _ (z + 1) ⟨hzl, fun j t' f' hj h1 h2 => ?_⟩ (by omega) le_of)
          by_cases hjz : j = z
          · subst hjz
            rw [htz] at h1; rw [hfz] at h2
            injection h1 with h1; injection h2 with h2
            subst h1; subst h2
            exact htf
          · exact hzp j t' f' (by omega) h1 h2
        · refine ct (by exact rfl) ?_ (by simp [htf])
          repeat' first | refine st (by exact rfl) ?_ | fail
          refine toL (hr3 _ ?_)
          repeat' first | refine st (by exact rfl) ?_ | fail
          exact en (by exact rfl) (by rw [hkd]; simp only [Except.bind]; rw [hcq, callQ, if_neg hst, if_neg hit', if_neg (fun h => h hle), if_neg (zipN htz hfz htf)]; rfl)
      · have hzl : done.length ≤ z := by have := of_decide_eq_false hb3; omega
        repeat' first | refine st (by exact rfl) ?_ | fail
        refine toL (he3 _ _ ?_)
        repeat' first | refine st (by exact rfl) ?_ | fail
        exact en (by exact rfl) (by rw [hkd]; simp only [Except.bind]; rw [hcq, callQ, if_neg hst, if_neg hit', if_neg (fun h => h hle), if_pos (zipA fun j t f h1 h2 => hzp j t f (by have := (lG h1); omega) h1 h2)]; rfl)
end
section
def Pg.some (p : Pg) (f : Tr → Bool) : Bool := p.globals.any f || p.procs.any fun q => q.body.any f
end
section
def KR (k k' : Tr) : Prop := (k'.op = k.op ∧ (k.op ≠ 66 → k'.nm = k.nm)) ∨ (k.op = 4 ∧ (k'.op = 1 ∨ k'.op = 2))
variable {k k' : Tr}
theorem KR.kind (h : KR k k') {c : Int} (hc : c = 110 → k'.op = k.op) (hk : kindOk c k.op = true) : kindOk c k'.op = true := by
 rcases h with h | h
 · rw [h.1]; exact hk
 · by_cases h110 : c = 110
   · rw [hc h110]; exact hk
   · by_cases h101 : c = 101
     · subst h101
       rcases h.2 with h2 | h2 <;> rw [h2] <;> rfl
     · by_cases h98 : c = 98
       · subst h98
         rw [h.1] at hk
         exact absurd hk (by decide)
       · unfold kindOk
         rw [if_neg h101, if_neg h98, if_neg h110]
theorem KR.expr (h : KR k k') (hk : isExprB k.op = true) : isExprB k'.op = true := by
 rcases h with h | ⟨_, h | h⟩
 · rw [h.1]; exact hk
 · rw [h]; rfl
 · rw [h]; rfl
theorem KR.same (h : KR k k') (h4 : k.op ≠ 4) : k'.op = k.op := by
 rcases h with h | h
 · exact h.1
 · exact absurd h.1 h4
variable {ks ks' : List Tr}
theorem kidsB_mono {s : ByteArray} (hl : ks'.length = ks.length) (h : kidsB ks s = true)
 (hk : ∀ (i : Nat) (k k' : Tr), ks[i]? = some k → ks'[i]? = some k' → kindOk ((s[i]!).toNat : Nat) k.op = true → kindOk ((s[i]!).toNat : Nat) k'.op = true) : kidsB ks' s = true := by
 have h2 := kidsB_len h
 unfold kidsB
 rw [Bool.and_eq_true, decide_eq_true_eq, List.all_eq_true]
 refine ⟨by rw [hl]; exact h2, ?_⟩
 rintro ⟨k', i⟩ hx
 have hx' := List.mem_zipIdx_iff_getElem?.1 hx
 have hi := (lG hx')
 have hk2 : ks[i]? = some (ks[i]'(by omega)) := gE (by omega)
 exact hk i _ k' hk2 hx' (kidsB_at h hk2)
theorem everyB_all {p : Int → Bool} : everyB p ks = true ↔ ∀ k ∈ ks, p k.op = true := by
 unfold everyB
 rw [Bool.not_eq_true', List.any_eq_false]
 constructor
 · intro h k hk; simpa using h k hk
 · intro h k hk; rw [h k hk]; decide
theorem get_of (hl : ks'.length = ks.length) {i : Nat} {k' : Tr} (h : ks'[i]? = some k') : ∃ k, ks[i]? = some k := by
 have hi := (lG h)
 exact ⟨_, gE (by omega)⟩
theorem everyB_mono {p : Int → Bool} (hl : ks'.length = ks.length) (h : everyB p ks = true)
 (hk : ∀ (i : Nat) (k k' : Tr), ks[i]? = some k → ks'[i]? = some k' → p k.op = true → p k'.op = true) : everyB p ks' = true := by
 rw [everyB_all] at h ⊢
 intro k' hk'
 obtain ⟨i, hi⟩ := List.getElem?_of_mem hk'
 obtain ⟨k, hk2⟩ := get_of hl hi
 exact hk i k k' hk2 hi (h k (mG hk2))
theorem varTail_iff {nu : Int} {l : List Tr} : varTail nu l = true ↔ (andI nu 2 ≠ 0 ∧ ∃ k, l = [k] ∧ isExprB k.op = true) ∨ (andI nu 2 = 0 ∧ l = []) := by
 unfold varTail
 by_cases h : andI nu 2 = 0
 · rw [if_neg (by simpa using h)]
   simp [h]
 · rw [if_pos (by simpa using h)]
   cases l with
   | nil => simp [h]
   | cons k r => cases r with
    | nil => simp [h]
    | cons k2 r => simp [h]; intro _; omega
def KRs (op num : Int) (ks ks' : List Tr) : Prop := ks'.length = ks.length ∧ ∀ (i : Nat) (k k' : Tr), ks[i]? = some k → ks'[i]? = some k' → KR k k' ∧ (keepsB op num ks.length i k = true → k.op = 4 → k' = k)
theorem KRs.kids {op num : Int} (h : KRs op num ks ks') {s : ByteArray} (hs : ∀ i, i < s.size → ((s[i]!).toNat : Int) ≠ 110) (hk : kidsB ks s = true) : kidsB ks' s = true :=
 kidsB_mono h.1 hk fun i k k' h1 h2 h3 => (h.2 i k k' h1 h2).1.kind (fun h4 => absurd h4 (hs i (by have := kidsB_len hk; have := (lG h1); omega))) h3
theorem KRs.every {op num : Int} (h : KRs op num ks ks') {p : Int → Bool} (hp : ∀ k k', KR k k' → p k.op = true → p k'.op = true) (hk : everyB p ks = true) : everyB p ks' = true :=
 everyB_mono h.1 hk fun i k k' h1 h2 h3 => hp k k' (h.2 i k k' h1 h2).1 h3
theorem n2 : ∀ i, i < (⟨#[101, 101]⟩ : ByteArray).size → (((⟨#[101, 101]⟩ : ByteArray)[i]!).toNat : Int) ≠ 110 := by decide
theorem m1 : ∀ i, i < (⟨#[101]⟩ : ByteArray).size → (((⟨#[101]⟩ : ByteArray)[i]!).toNat : Int) = 101 ∨ (((⟨#[101]⟩ : ByteArray)[i]!).toNat : Int) = 98 ∨ (((⟨#[101]⟩ : ByteArray)[i]!).toNat : Int) = 110 := by decide
theorem m2 : ∀ i, i < (⟨#[101, 101]⟩ : ByteArray).size → (((⟨#[101, 101]⟩ : ByteArray)[i]!).toNat : Int) = 101 ∨ (((⟨#[101, 101]⟩ : ByteArray)[i]!).toNat : Int) = 98 ∨ (((⟨#[101, 101]⟩ : ByteArray)[i]!).toNat : Int) = 110 := by decide
theorem m3 : ∀ i, i < (⟨#[101, 98]⟩ : ByteArray).size → (((⟨#[101, 98]⟩ : ByteArray)[i]!).toNat : Int) = 101 ∨ (((⟨#[101, 98]⟩ : ByteArray)[i]!).toNat : Int) = 98 ∨ (((⟨#[101, 98]⟩ : ByteArray)[i]!).toNat : Int) = 110 := by decide
end
end Go.Proofs.YtklkbfpjimeaoaaGreat
