import Derived.Test.YtklkbfpjimeaoaaGreatM13
/- Contracts of functions. Conditions: none. -/
set_option linter.unusedSimpArgs false
set_option linter.unusedVariables false
set_option maxRecDepth 20000
namespace Go.Proofs.YtklkbfpjimeaoaaGreat
open Go Go.Proofs.YtklkbfpjimeaoaaGreat.E
section
inductive Tr where
 | mk (op : Int) (name : ByteArray) (num : Int) (kids : List Tr)
mutual
def Tr.d : Tr → D
 | .mk op name num kids => .agg [.int .i64 op, .str name, .int .i64 num, .sl (Tr.ds kids)]
def Tr.ds : List Tr → List D
 | [] => []
 | k :: ks => k.d :: Tr.ds ks
end
theorem Tr.ds_map : ∀ ks : List Tr, Tr.ds ks = ks.map Tr.d
 | [] => rfl
 | k :: ks => by rw [Tr.ds, Tr.ds_map ks]; rfl
theorem Tr.d_mk (op : Int) (name : ByteArray) (num : Int) (kids : List Tr) : (Tr.mk op name num kids).d = .agg [.int .i64 op, .str name, .int .i64 num, .sl (kids.map Tr.d)] := by rw [Tr.d, Tr.ds_map]
theorem Tr.d_agg (t : Tr) : ∃ op name num kids, t.d = .agg [.int .i64 op, .str name, .int .i64 num, .sl (List.map Tr.d kids)] := by
 obtain ⟨op, name, num, kids⟩ := t; exact ⟨op, name, num, kids, Tr.d_mk ..⟩
theorem Tr.d_cells (t : Tr) : t.d.cells.length = 4 := by obtain ⟨op, name, num, kids⟩ := t; rw [Tr.d_mk]; rfl
theorem Tr.ds_cells (ks : List Tr) : ∀ x ∈ ks.map Tr.d, x.cells.length = 4 := fun x hx => by
 obtain ⟨t, _, rfl⟩ := List.mem_map.1 hx; exact t.d_cells
variable {z : Nat}
theorem Tr.ds_get {ks : List Tr} {k : Tr} (h : ks[z]? = some k) : (ks.map Tr.d)[z]? = some k.d := by rw [List.getElem?_map, h]; rfl
mutual
def Tr.size : Tr → Nat
 | .mk _ _ _ ks => 1 + Tr.sizes ks
def Tr.sizes : List Tr → Nat
 | [] => 0
 | k :: ks => k.size + Tr.sizes ks
end
theorem Tr.size_mem : ∀ {ks : List Tr} {k : Tr}, k ∈ ks → k.size ≤ Tr.sizes ks
 | x :: r, k, h => by
  rw [Tr.sizes]
  rcases List.mem_cons.1 h with rfl | h
  · omega
  · have := Tr.size_mem h; omega
theorem Tr.size_pos (t : Tr) : 1 ≤ t.size := by obtain ⟨op, name, num, ks⟩ := t; rw [Tr.size]; omega
theorem Tr.len_sizes : ∀ ks : List Tr, ks.length ≤ Tr.sizes ks
 | [] => by simp
 | k :: ks => by rw [Tr.sizes, List.length_cons]; have := Tr.len_sizes ks; have := k.size_pos; omega
inductive Tr.Ok : Tr → Prop
 | mk {op : Int} {name : ByteArray} {num : Int} {ks : List Tr} (h1 : (Lit.int .i64 op).wf = true) (h2 : name.size ≤ 140737488355328) (h3 : (Lit.int .i64 num).wf = true) (h4 : ks.length ≤ 140737488355328) (h5 : ∀ k ∈ ks, Tr.Ok k) : Tr.Ok (.mk op name num ks)
mutual
def Tr.cnt : Tr → Int → Int
 | .mk _ _ _ ks, m => Tr.cnts ks 1 m
def Tr.cnts : List Tr → Int → Int → Int
 | [], n, _ => n
 | k :: ks, n, m => if n > m then n else Tr.cnts ks (n + k.cnt (m - n)) m
end
mutual
theorem Tr.cnt_bd : ∀ (t : Tr) (m : Int), 0 ≤ m → 1 ≤ t.cnt m ∧ t.cnt m ≤ m + 1
 | .mk _ _ _ ks, m, h => by rw [Tr.cnt]; exact Tr.cnts_bd ks 1 m h (by omega)
theorem Tr.cnts_bd : ∀ (ks : List Tr) (n m : Int), 0 ≤ m → n ≤ m + 1 → n ≤ Tr.cnts ks n m ∧ Tr.cnts ks n m ≤ m + 1
 | [], n, m, h, h2 => by rw [Tr.cnts]; omega
 | k :: ks, n, m, h, h2 => by
  rw [Tr.cnts]
  split
  · omega
  · have h3 := Tr.cnt_bd k (m - n) (by omega)
    have h4 := Tr.cnts_bd ks (n + k.cnt (m - n)) m h (by omega)
    omega
end
mutual
theorem Tr.cnt_eq : ∀ (t : Tr) (m : Int), 0 ≤ m → t.cnt m ≤ m → t.cnt m = t.size
 | .mk _ _ _ ks, m, h, h2 => by
  rw [Tr.cnt] at h2 ⊢
  rw [Tr.cnts_eq ks 1 m h (by omega) h2, Tr.size]; omega
theorem Tr.cnts_eq : ∀ (ks : List Tr) (n m : Int), 0 ≤ m → n ≤ m + 1 → Tr.cnts ks n m ≤ m → Tr.cnts ks n m = n + Tr.sizes ks
 | [], n, m, h, h2, h3 => by rw [Tr.cnts, Tr.sizes]; omega
 | k :: ks, n, m, h, h2, h3 => by
  rw [Tr.cnts] at h3 ⊢
  split at h3
  · omega
  · rename_i hn
    rw [if_neg hn]
    have h4 := Tr.cnt_bd k (m - n) (by omega)
    have h5 := Tr.cnts_bd ks (n + k.cnt (m - n)) m h (by omega)
    rw [Tr.cnts_eq ks _ m h (by omega) h3, Tr.cnt_eq k (m - n) (by omega) (by omega), Tr.sizes]
    omega
end
theorem Tr.cnts_stop (ks : List Tr) {n m : Int} (h : n > m) : Tr.cnts ks n m = n := by
 cases ks with
 | nil => rw [Tr.cnts]
 | cons k ks => rw [Tr.cnts, if_pos h]
theorem Tr.cnts_drop {ks : List Tr} {k : Tr} (h : ks[z]? = some k) (n m : Int) (hn : ¬ n > m) : Tr.cnts (ks.drop z) n m = Tr.cnts (ks.drop (z + 1)) (n + k.cnt (m - n)) m := by
 obtain ⟨hlt, rfl⟩ := List.getElem?_eq_some_iff.1 h
 rw [List.drop_eq_getElem_cons hlt, Tr.cnts, if_neg hn]
mutual
def Tr.long : Tr → Bool
 | .mk _ name _ ks => decide ((name.size : Int) > 300) || Tr.longs ks
def Tr.longs : List Tr → Bool
 | [] => false
 | k :: ks => k.long || Tr.longs ks
end
theorem Tr.longs_any : ∀ ks : List Tr, Tr.longs ks = ks.any Tr.long
 | [] => rfl
 | k :: ks => by rw [Tr.longs, Tr.longs_any ks]; rfl
theorem Tr.long_mk (op : Int) (name : ByteArray) (num : Int) (ks : List Tr) : (Tr.mk op name num ks).long = (decide ((name.size : Int) > 300) || ks.any Tr.long) := by rw [Tr.long, Tr.longs_any]
def idxL {α : Type} (p : α → Bool) (xs : List α) : Int := match xs.findIdx? p with | some i => i | none => -1
theorem idxL_step {α : Type} {p : α → Bool} {xs : List α} {x : α} (h : ∀ i, i < z → ∀ y, xs[i]? = some y → p y = false) (hx : xs[z]? = some x) (hb : p x = false) : ∀ i, i < z + 1 → ∀ y, xs[i]? = some y → p y = false := fun i hi y hy => by
 by_cases hiz : i = z
 · subst hiz; rw [hx] at hy; injection hy with hy; subst hy; exact hb
 · exact h i (by omega) y hy
theorem idxL_found {α : Type} {p : α → Bool} {xs : List α} {x : α} (h : ∀ i, i < z → ∀ y, xs[i]? = some y → p y = false) (hx : xs[z]? = some x) (hb : p x = true) : PV.d (.int .i64 (z : Nat)) = PV.d (.int .i64 (idxL p xs)) := by
 have hlt := (lG hx)
 have hxe : xs[z] = x := by rw [gE hlt] at hx; injection hx
 have : xs.findIdx? p = some z := by
  rw [List.findIdx?_eq_some_iff_getElem]
  exact ⟨hlt, by rw [hxe]; exact hb, fun j hj => by simpa using h j hj xs[j] (gE (by omega))⟩
 simp [idxL, this]
theorem idxL_none {α : Type} {p : α → Bool} {xs : List α} (h : ∀ i, i < xs.length → ∀ y, xs[i]? = some y → p y = false) : PV.d (.int .i64 (-1)) = PV.d (.int .i64 (idxL p xs)) := by
 have : xs.findIdx? p = none := by
  rw [List.findIdx?_eq_none_iff]
  intro x hx
  obtain ⟨i, hi⟩ := List.getElem?_of_mem hx
  exact h i (lG hi) x hi
 simp [idxL, this]
variable {α : Type}
theorem idxL_any (p : α → Bool) (xs : List α) : decide (idxL p xs ≥ 0) = xs.any p := by
 unfold idxL
 cases h : xs.findIdx? p with
 | none =>
  rw [List.findIdx?_eq_none_iff] at h
  simp; exact h
 | some i =>
  rw [List.findIdx?_eq_some_iff_getElem] at h
  obtain ⟨h1, h2, _⟩ := h
  have : xs.any p = true := by rw [List.any_eq_true]; exact ⟨xs[i], List.getElem_mem h1, h2⟩
  rw [this]; simp
def Tr.op : Tr → Int
 | .mk op _ _ _ => op
def Tr.nm : Tr → ByteArray
 | .mk _ nm _ _ => nm
def Tr.nu : Tr → Int
 | .mk _ _ nu _ => nu
def Tr.kids : Tr → List Tr
 | .mk _ _ _ ks => ks
theorem Tr.op_mk (op : Int) (nm : ByteArray) (nu : Int) (ks : List Tr) : (Tr.mk op nm nu ks).op = op := rfl
theorem Tr.nm_mk (op : Int) (nm : ByteArray) (nu : Int) (ks : List Tr) : (Tr.mk op nm nu ks).nm = nm := rfl
theorem Tr.nu_mk (op : Int) (nm : ByteArray) (nu : Int) (ks : List Tr) : (Tr.mk op nm nu ks).nu = nu := rfl
theorem Tr.kids_mk (op : Int) (nm : ByteArray) (nu : Int) (ks : List Tr) : (Tr.mk op nm nu ks).kids = ks := rfl
def isExprB (op : Int) : Bool := decide (op ≥ 1) && decide (op ≤ 19) && (op != 3)
def isStmtB (op : Int) : Bool := decide (op ≥ 50) && decide (op ≤ 66)
theorem c74 (op : Int) : Pf Tryz.prog 74 [.int .i64 op] (.d (.bool (isExprB op))) := by
 refine pf_body (rvs := [.tmp 2]) [(0, .d (.int .i64 op))] Tryz.func74 Tryz.ntmps74 Tryz.results74 (fun S0 O0 w0 m0 hm0 => ?_)
 refine Z280 ?_;refine Z99 ?_;refine Z249 ?_
 refine sg rfl (fun hg => sP 6 rfl hg q_leq) ?_
 refine Z241 ?_;refine Z19 ?_
 refine sg rfl (fun hg => sP 10 rfl hg q_neq) ?_
 refine Z257 ?_
 exact ⟨by simp [isExprB, Bool.and_assoc], rfl⟩
theorem c95 (op : Int) : Pf Tryz.prog 95 [.int .i64 op] (.d (.bool (isStmtB op))) := by
 refine pf_body (rvs := [.tmp 2]) [(0, .d (.int .i64 op))] Tryz.func95 Tryz.ntmps95 Tryz.results95 (fun S0 O0 w0 m0 hm0 => ?_)
 refine Z280 ?_;refine Z99 ?_;refine Z249 ?_
 refine sg rfl (fun hg => sP 6 rfl hg q_leq) ?_
 refine Z257 ?_
 exact ⟨by simp [isStmtB], rfl⟩
theorem c99 (t : Tr) : Pf Tryz.prog 99 [t.d] (.d (.bool (isExprB t.op))) := by
 obtain ⟨op, name, num, ks⟩ := t
 rw [Tr.d_mk]
 try simp only [Tr.op_mk, Tr.nm_mk, Tr.nu_mk, Tr.kids_mk]
 refine pf_body (rvs := [.tmp 2]) [(0, .d (.agg [.int .i64 op, .str name, .int .i64 num, .sl (ks.map Tr.d)]))] Tryz.func99 Tryz.ntmps99 Tryz.results99 (fun S0 O0 w0 m0 hm0 => ?_)
 refine Z267 ?_;refine Z238 ?_;refine Z99 ?_;refine Z263 ?_;refine Z166 ?_
 refine sg rfl (fun hg => sP 8 rfl hg q_leq) ?_
 refine Z241 ?_;refine Z24 ?_
 refine sg rfl (fun hg => sP 12 rfl hg (qL u3)) ?_
 refine sg rfl (fun hg => sP 13 rfl hg q_neq) ?_
 refine Z257 ?_
 exact ⟨by simp [isExprB, Bool.and_assoc], rfl⟩
theorem c125 (ts : List Tr) (g : FuncId) (fa fc : List D) (p : Tr → Bool) (hlim : ts.length ≤ 140737488355328)
 (hcb : ∀ x ∈ ts, Pf Tryz.prog g (fa ++ [x.d] ++ fc) (.d (.bool (p x)))) : Pf Tryz.prog 125 [.sl (ts.map Tr.d), .fn (.func g) fa fc] (.d (.int .i64 (idxL p ts))) := by
 refine pf_body (rvs := [.tmp 4]) [(0, .d (.sl (ts.map Tr.d))), (1, .d (.fn (.func g) fa fc))] Tryz.func125 Tryz.ntmps125 Tryz.results125 (fun S0 O0 w0 m0 hm0 => ?_)
 refine Z272 ?_;refine Z273 ?_
 refine g_loop (α := Nat) (fun z => ⟨[(8, .d (.int .i64 (z : Nat))), (7, .d (.int .i64 ((ts.map Tr.d).length : Nat))), (6, .d (.sl (ts.map Tr.d))), (1, .d (.fn (.func g) fa fc)), (0, .d (.sl (ts.map Tr.d)))], []⟩) (fun z => ts.length - z) (fun z => z ≤ ts.length ∧ ∀ i, i < z → ∀ x, ts[i]? = some x → p x = false) 0 ⟨Nat.zero_le _, by simp⟩ (fun z hz Q' hn0 he0 hr0 => ?_) (le_of)
 obtain ⟨hz1, hz2⟩ := hz
 refine Z248 ?_
 refine gC ?_ ?_ <;> intro hb0
 ·
  have hlt : z < ts.length := by simpa using hb0
  obtain ⟨x, hx⟩ : ∃ x, ts[z]? = some x := ⟨_, gE hlt⟩
  have hmem := mG hx
  have hxd := Tr.ds_get hx
  have hcx := hcb x hmem
  obtain ⟨op, name, num, kids⟩ := x
  rw [Tr.d_mk] at hxd hcx
  refine Z268 ?_;refine Z230 ?_;refine Z231 ?_;refine Z0 ?_;refine Z258 ?_;refine Z211 ?_;refine Z10 ?_
  refine gC ?_ ?_ <;> intro hb1
  ·
   refine Z254 ?_;refine Z242 ?_;refine Z276 ?_
   exact Y2
  refine Z284 ?_
  refine hn0 _ (z + 1) ⟨by omega, idxL_step hz2 hx hb1⟩ (by omega) le_of
 have hge : z = ts.length := by
  have : ¬ (z : Int) < (ts.map Tr.d).length := by simpa using hb0
  rw [List.length_map] at this
  omega
 refine Z259 ?_;refine Z228 ?_
 exact Y3
theorem c52 (ts : List Tr) (g : FuncId) (fa fc : List D) (p : Tr → Bool) (hlim : ts.length ≤ 140737488355328)
 (hcb : ∀ x ∈ ts, Pf Tryz.prog g (fa ++ [x.d] ++ fc) (.d (.bool (p x)))) : Pf Tryz.prog 52 [.sl (ts.map Tr.d), .fn (.func g) fa fc] (.d (.bool (ts.any p))) := by
 refine pf_body (rvs := [.tmp 4]) [(0, .d (.sl (ts.map Tr.d))), (1, .d (.fn (.func g) fa fc))] Tryz.func52 Tryz.ntmps52 Tryz.results52 (fun S0 O0 w0 m0 hm0 => ?_)
 refine Z274 ?_
 refine gL (xs := [.tmp 5, .tmp 6]) rfl (c125 ts g fa fc p hlim hcb) ?_
 refine Z99 ?_;refine Z229 ?_
 exact Y5
theorem c68n : ∀ (n : Nat) (t : Tr), t.size ≤ n → t.Ok → Pf Tryz.prog 68 [t.d] (.d (.bool t.long)) := by
 intro n
 induction n with
 | zero => intro t h; exact absurd t.size_pos (by omega)
 | succ n ih =>
  intro t hsz hok
  obtain ⟨op, name, num, ks⟩ := t
  have hkd : ∀ k ∈ ks, k.size ≤ n := fun k hk => by
   have := Tr.size_mem hk
   rw [Tr.size] at hsz
   omega
  rw [Tr.d_mk]
  cases hok with | mk h1 h2 h3 h4 h5 =>
  refine pf_body (rvs := [.tmp 2]) [(0, .d (.agg [.int .i64 op, .str name, .int .i64 num, .sl (ks.map Tr.d)]))] Tryz.func68 Tryz.ntmps68 Tryz.results68 (fun S0 O0 w0 m0 hm0 => ?_)
  refine Z267 ?_;refine Z270 ?_;refine Z156 ?_;refine Z109 ?_;refine Z0 ?_;refine Z44 ?_
  refine sg rfl (fun hg => sP 8 rfl hg (qL u22)) ?_
  refine g_callg (xs := [.tmp 9, .func 68]) rfl (fun hg => c52 ks 68 [] [] Tr.long h4 (fun x hx => ih x (hkd x hx) (h5 x hx))) ?_
  refine Z275 ?_
  exact ⟨by rw [Tr.long_mk], rfl⟩
theorem c21n : ∀ (n : Nat) (t : Tr), t.size ≤ n → t.Ok → ∀ most : Int, 0 ≤ most → most ≤ 1000000 → Pf Tryz.prog 21 [t.d, .int .i64 most] (.d (.int .i64 (t.cnt most))) := by
 intro n
 induction n with
 | zero => intro t h; exact absurd t.size_pos (by omega)
 | succ n ih =>
  intro t hsz hok most hm0' hm1'
  obtain ⟨op, name, num, ks⟩ := t
  have hkd : ∀ k ∈ ks, k.size ≤ n := fun k hk => by
   have := Tr.size_mem hk
   rw [Tr.size] at hsz
   omega
  rw [Tr.d_mk]
  cases hok with | mk h1 h2 h3 h4 h5 =>
  refine pf_body (rvs := [.tmp 4]) [(0, .d (.agg [.int .i64 op, .str name, .int .i64 num, .sl (ks.map Tr.d)])), (1, .d (.int .i64 most))] Tryz.func21 Tryz.ntmps21 Tryz.results21 (fun S0 O0 w0 m0 hm0 => ?_)
  refine Z267 ?_;refine Z233 ?_;refine Z250 ?_;refine Z273 ?_
  refine g_loop (α := Nat × Int) (fun z => ⟨[(11, .d (.int .i64 (z.1 : Nat))), (10, .d (.int .i64 ((ks.map Tr.d).length : Nat))), (9, .d (.sl (ks.map Tr.d))), (5, .d (.int .i64 z.2)), (1, .d (.int .i64 most))], []⟩) (fun z => ks.length - z.1) (fun z => z.1 ≤ ks.length ∧ 1 ≤ z.2 ∧ z.2 ≤ most + 1 ∧ Tr.cnts (ks.drop z.1) z.2 most = Tr.cnts ks 1 most) (0, 1) ⟨Nat.zero_le _, by show (1 : Int) ≤ 1; omega, by show (1 : Int) ≤ most + 1; omega, rfl⟩ (fun z hz Q' hn0 he0 hr0 => ?_) (le_of)
  obtain ⟨z, c⟩ := z
  obtain ⟨hz1, hc1, hc2, hc3⟩ := hz
  replace hz1 : z ≤ ks.length := hz1
  replace hc1 : 1 ≤ c := hc1
  replace hc2 : c ≤ most + 1 := hc2
  replace hc3 : Tr.cnts (ks.drop z) c most = Tr.cnts ks 1 most := hc3
  refine Z248 ?_
  refine gC ?_ ?_ <;> intro hb0
  ·
   have hlt : z < ks.length := by simpa using hb0
   obtain ⟨k, hk⟩ : ∃ k, ks[z]? = some k := ⟨_, gE hlt⟩
   have hmem := mG hk
   have hxd := Tr.ds_get hk
   have hxa := hxd
   obtain ⟨kop, knm, knu, kks, hka⟩ := k.d_agg
   rw [hka] at hxa
   refine Z25 ?_;refine Z258 ?_;refine Z269 ?_;refine Z63 ?_;refine Z11 ?_;refine Z231 ?_;refine Z109 ?_;refine Z10 ?_
   refine gC ?_ ?_ <;> intro hb1
   ·
    have hnn : c > most := by simpa using hb1
    refine G_exit (thn_exit (blk_other (by decide) (thn_exit ?_)))
    refine Z67 ?_;refine Z36 ?_;refine Z0 ?_;refine Z229 ?_
    exact ⟨by rw [Tr.cnt, ← hc3, Tr.cnts_stop _ hnn], rfl⟩
   have hnn : ¬ c > most := by simpa using hb1
   have hbd := Tr.cnt_bd k (most - c) (by omega)
   refine gK (tN (gR ?_))
   refine Z0 ?_;refine Z8 ?_;refine Z231 ?_
   refine vq rfl q_sub ?_
   refine gL (xs := [.tmp 19, .tmp 22]) rfl ((hka ▸ ih k (hkd k hmem) (h5 k hmem) (most - c) (by omega) (by omega))) ?_
   refine Z26 ?_;refine Z1 ?_;refine Z222 ?_
   refine gP [0, 1, 2, 4, 5, 7, 9, 10, 11] ?_
   refine Z285 ?_
   refine hn0 _ (z + 1, c + k.cnt (most - c)) ⟨by show z + 1 ≤ ks.length; omega, by show 1 ≤ c + k.cnt (most - c); omega, by show c + k.cnt (most - c) ≤ most + 1; omega, by show Tr.cnts (ks.drop (z + 1)) (c + k.cnt (most - c)) most = _; rw [← Tr.cnts_drop hk c most hnn]; exact hc3⟩ (by show ks.length - (z + 1) < ks.length - z; omega) le_of
  have hge : z = ks.length := by
   have : ¬ (z : Int) < (ks.map Tr.d).length := by simpa using hb0
   rw [List.length_map] at this
   omega
  refine Z259 ?_;refine Z0 ?_;refine Z229 ?_
  exact ⟨by rw [Tr.cnt, ← hc3, hge, List.drop_length, Tr.cnts], rfl⟩
def Tr.few (t : Tr) (most : Int) : Bool := !(decide (Tr.cnts [t] 0 most > most) || t.long)
theorem c47t (xs ys : List Tr) (g : FuncId) (hlen : xs.length = ys.length) (hlim : xs.length ≤ 140737488355328)
 (hcb : ∀ (i : Nat) x y, xs[i]? = some x → ys[i]? = some y → Pf Tryz.prog g [x.d, y.d] (.d (.bool true))) : Pf Tryz.prog 47 [.sl (xs.map Tr.d), .sl (ys.map Tr.d), .fn (.func g) [] []] (.d (.bool true)) := by
 refine pf_body (rvs := [.tmp 6]) [(0, .d (.sl (xs.map Tr.d))), (1, .d (.sl (ys.map Tr.d))), (2, .d (.fn (.func g) [] []))] Tryz.func47 Tryz.ntmps47 Tryz.results47 (fun S0 O0 w0 m0 hm0 => ?_)
 refine Z272 ?_;refine Z47 ?_;refine Z0 ?_;refine Z47 ?_;refine Z261 ?_
 refine gC ?_ ?_ <;> intro hb0
 ·
  exfalso
  simp [hlen] at hb0
  skip
 refine Z103 ?_;refine Z0 ?_;refine Z273 ?_
 refine g_loop (α := Nat) (fun z => ⟨[(17, .d (.int .i64 (z : Nat))), (16, .d (.int .i64 ((xs.map Tr.d).length : Nat))), (15, .d (.sl (xs.map Tr.d))), (1, .d (.sl (ys.map Tr.d))), (2, .d (.fn (.func g) [] []))], []⟩) (fun z => xs.length - z) (fun z => z ≤ xs.length) 0 (Nat.zero_le _) (fun z hz Q' hn0 he0 hr0 => ?_) (le_of)
 skip
 refine Z248 ?_
 refine gC ?_ ?_ <;> intro hb1
 ·
  have hlt : z < xs.length := by simpa using hb1
  obtain ⟨x, hx⟩ : ∃ x, xs[z]? = some x := ⟨_, gE hlt⟩
  obtain ⟨y, hy⟩ : ∃ y, ys[z]? = some y := ⟨_, gE (hlen ▸ hlt)⟩
  have hcx := hcb z x y hx hy
  have hxd := Tr.ds_get hx
  have hyd := Tr.ds_get hy
  obtain ⟨xop, xnm, xnu, xks, hxa⟩ := x.d_agg
  obtain ⟨yop, ynm, ynu, yks, hya⟩ := y.d_agg
  rw [hxa] at hxd hcx
  rw [hya] at hyd hcx
  refine Z268 ?_;refine Z258 ?_;refine Z29 ?_;refine Z1 ?_;refine Z21 ?_;refine Z5 ?_;refine Z231 ?_;refine Z258 ?_;refine Z269 ?_;refine Z30 ?_
  refine gP [0, 1, 2, 6, 7, 8, 9, 15, 16, 17] ?_
  refine Z253 ?_;refine Z60 ?_;refine Z60 ?_
  refine gL (xs := [.tmp 27, .tmp 28]) rfl (hcx) ?_
  refine Z281 ?_
  refine gC ?_ ?_ <;> intro hb2
  · exact Y6
  refine Z284 ?_
  refine hn0 _ (z + 1) (by omega) (by omega) le_of
 refine Z259 ?_;refine Z229 ?_
 exact ⟨rfl, rfl⟩
theorem c30n : ∀ (n : Nat) (t : Tr), t.size ≤ n → t.Ok → Pf Tryz.prog 30 [t.d, t.d] (.d (.bool true)) := by
 intro n
 induction n with
 | zero => intro t h; exact absurd t.size_pos (by omega)
 | succ n ih =>
  intro t hsz hok
  obtain ⟨op, name, num, ks⟩ := t
  have hkd : ∀ k ∈ ks, k.size ≤ n := fun k hk => by
   have := Tr.size_mem hk
   rw [Tr.size] at hsz
   omega
  rw [Tr.d_mk]
  cases hok with | mk h1 h2 h3 h4 h5 =>
  refine pf_body (rvs := [.tmp 4]) [(0, .d (.agg [.int .i64 op, .str name, .int .i64 num, .sl (ks.map Tr.d)])), (1, .d (.agg [.int .i64 op, .str name, .int .i64 num, .sl (ks.map Tr.d)]))] Tryz.func30 Tryz.ntmps30 Tryz.results30 (fun S0 O0 w0 m0 hm0 => ?_)
  refine Z245 ?_;refine Z13 ?_;refine Z9 ?_;refine Z230 ?_;refine Z238 ?_;refine Z266 ?_;refine Z0 ?_;refine Z50 ?_
  refine sg rfl (fun hg => sP 11 rfl hg (qL u9)) ?_
  refine Z50 ?_
  refine sg rfl (fun hg => sP 13 rfl hg (qL u9)) ?_
  refine sg rfl (fun hg => sP 14 rfl hg (sP 12 rfl hg q_streq)) ?_
  refine Z241 ?_;refine Z24 ?_
  refine sg rfl (fun hg => sP 18 rfl hg (qL u3)) ?_
  refine Z24 ?_
  refine sg rfl (fun hg => sP 20 rfl hg (qL u3)) ?_
  refine sg rfl (fun hg => sP 21 rfl hg (sP 19 rfl hg q_eql)) ?_
  refine Z241 ?_;refine Z44 ?_
  refine sg rfl (fun hg => sP 25 rfl hg (qL u22)) ?_
  refine Z44 ?_
  refine sg rfl (fun hg => sP 27 rfl hg (qL u22)) ?_
  refine g_callg (xs := [.tmp 26, .tmp 28, .func 30]) rfl (fun hg => c47t ks ks 30 rfl h4 (fun i x y hx hy => by rw [hx] at hy; injection hy with hy; subst hy; exact ih x (hkd x (mG hx)) (h5 x (mG hx)))) ?_
  refine Z257 ?_
  exact ⟨by simp, rfl⟩
end
section
def letterB (c : Int) : Bool := (decide (c ≥ 97) && decide (c ≤ 122)) || (decide (c ≥ 65) && decide (c ≤ 90)) || decide (c = 95)
def charOk (i : Nat) (c : Int) : Bool := letterB c || (!decide (i = 0) && (decide (c ≥ 48) && decide (c ≤ 57)))
def nameB (s : ByteArray) : Bool := !(decide ((s.size : Int) < 1) || decide ((s.size : Int) > 40)) && s.data.toList.zipIdx.all fun x => charOk x.2 (x.1.toNat : Nat)
def preB (s p : ByteArray) : Bool := decide ((s.size : Int) ≥ (p.size : Nat)) && decide (s.extract 0 p.size = p)
def trimB (s p : ByteArray) : ByteArray := if preB s p = true then s.extract p.size s.size else s
theorem zipIdx_all {α : Type} {p : Nat → α → Bool} {xs : List α} (h : ∀ i, i < xs.length → ∀ x, xs[i]? = some x → p i x = true) : (xs.zipIdx.all fun x => p x.2 x.1) = true := by
 rw [List.all_eq_true]
 rintro ⟨x, i⟩ hx
 have := List.mem_zipIdx_iff_getElem?.1 hx
 exact h i (lG this) x this
theorem zipIdx_not {α : Type} {p : Nat → α → Bool} {xs : List α} {i : Nat} {x : α} (hx : xs[i]? = some x) (h : p i x = false) : (xs.zipIdx.all fun x => p x.2 x.1) = false := by
 rw [List.all_eq_false]
 exact ⟨(x, i), List.mem_zipIdx_iff_getElem?.2 hx, by simp [h]⟩
variable {z : Nat}
theorem upto_step {α : Type} {p : Nat → α → Bool} {xs : List α} {x : α} (h : ∀ i, i < z → ∀ y, xs[i]? = some y → p i y = true) (hx : xs[z]? = some x) (hb : p z x = true) : ∀ i, i < z + 1 → ∀ y, xs[i]? = some y → p i y = true := fun i hi y hy => by
 by_cases hiz : i = z
 · subst hiz; rw [hx] at hy; injection hy with hy; subst hy; exact hb
 · exact h i (by omega) y hy
theorem bytesD_get {b : ByteArray} {c : UInt8} (h : b.data.toList[z]? = some c) : (bytesD b)[z]? = some (.int .u8 (c.toNat : Nat)) := by unfold bytesD; rw [List.getElem?_map, h]; rfl
theorem c319 (s p : ByteArray) : Pf Tryz.prog 319 [.str s, .str p] (.d (.bool (preB s p))) := by
 refine pf_body (rvs := [.tmp 4]) [(0, .d (.str s)), (1, .d (.str p))] Tryz.func319 Tryz.ntmps319 Tryz.results319 (fun S0 O0 w0 m0 hm0 => ?_)
 refine Z280 ?_;refine Z156 ?_;refine Z0 ?_;refine Z156 ?_;refine Z99 ?_;refine Z0 ?_
 refine g_split 10 true (fun hsp => ?_) (fun hsp => ?_)
 ·
  refine Z95 ?_;refine Z95 ?_
  refine sgo rfl hsp (y_lenstr u9) ?_
  refine sgo rfl hsp (Yld_pure rfl (oR rfl) (q_strh u9 (h1 := by simpa using hsp))) ?_
  refine Z95 ?_
  refine sgo rfl hsp y_streq ?_
  refine Z257 ?_
  exact ⟨by simp [preB], rfl⟩
 refine Z264 ?_;refine Z237 ?_;refine Z257 ?_
 exact ⟨by simp at hsp; simp [preB]; omega, rfl⟩
theorem c287 (s p : ByteArray) : Pf Tryz.prog 287 [.str s, .str p] (.d (.str (trimB s p))) := by
 refine pf_body (rvs := [.tmp 4]) [(0, .d (.str s)), (1, .d (.str p))] Tryz.func287 Tryz.ntmps287 Tryz.results287 (fun S0 O0 w0 m0 hm0 => ?_)
 refine Z3 ?_;refine Z233 ?_;refine Z231 ?_
 refine gL (xs := [.tmp 5, .tmp 6]) rfl (c319 s p) ?_
 refine Z10 ?_
 refine gC ?_ ?_ <;> intro hb0
 ·
  have hle : (p.size : Int) ≤ s.size := by
   simp only [preB, Bool.and_eq_true, decide_eq_true_eq] at hb0
   exact hb0.1
  refine Z3 ?_;refine Z231 ?_;refine Z156 ?_
  refine vq rfl ((q_strl u9)) ?_
  refine Z243 ?_
  exact ⟨by rw [trimB, if_pos hb0]; rfl, rfl⟩
 refine Z43 ?_;refine Z0 ?_;refine Z229 ?_
 exact ⟨by rw [trimB, if_neg (by simp [hb0])], rfl⟩
theorem c235 (s p : ByteArray) : Pf Tryz.prog 235 [.str s, .str p] (.d (.str (trimB s p))) := by
 refine pf_body (rvs := [.tmp 4]) [(0, .d (.str s)), (1, .d (.str p))] Tryz.func235 Tryz.ntmps235 Tryz.results235 (fun S0 O0 w0 m0 hm0 => ?_)
 refine Z274 ?_
 refine gL (xs := [.tmp 5, .tmp 6]) rfl (c287 s p) ?_
 refine Z229 ?_
 exact ⟨rfl, rfl⟩
set_option maxHeartbeats 1000000 in
theorem c167 (s : ByteArray) : Pf Tryz.prog 167 [.str s] (.d (.bool (nameB s))) := by
 refine pf_body (rvs := [.tmp 2]) [(0, .d (.str s))] Tryz.func167 Tryz.ntmps167 Tryz.results167 (fun S0 O0 w0 m0 hm0 => ?_)
 refine Z272 ?_;refine Z156 ?_;refine Z40 ?_;refine Z249 ?_
 refine sg rfl (fun hg => sP 10 rfl hg (q_lenstr u9)) ?_
 refine sg rfl (fun hg => sP 11 rfl hg q_gtr) ?_
 refine Z251 ?_
 refine gC ?_ ?_ <;> intro hb0
 ·
  have hnm : nameB s = false := by unfold nameB; rw [hb0]; rfl
  refine Z286 ?_
  exact ⟨by rw [hnm], rfl⟩
 have hsz : 1 ≤ s.size ∧ s.size ≤ 40 := by
  simp only [Bool.or_eq_false_iff, decide_eq_false_iff_not] at hb0
  omega
 refine Z103 ?_;refine Z0 ?_
 refine sv rfl (y_strbytes u9 u243 u5) ?_
 refine vq rfl (q_len u243) ?_
 refine Z246 ?_
 refine g_loop (α := Nat) (fun z => ⟨[(17, .d (.int .i64 (z : Nat))), (16, .d (.int .i64 ((bytesD s).length : Nat))), (15, .d (.sl (bytesD s)))], []⟩) (fun z => s.size - z) (fun z => z ≤ s.size ∧ ∀ i, i < z → ∀ c, s.data.toList[i]? = some c → charOk i (c.toNat : Nat) = true) 0 ⟨Nat.zero_le _, by simp⟩ (fun z hz Q' hn0 he0 hr0 => ?_) (le_of)
 obtain ⟨hz1, hz2⟩ := hz
 have hbl := bytesD_length s
 refine Z248 ?_
 refine gC ?_ ?_ <;> intro hb1
 ·
  have hlt : z < s.size := by
   have : (z : Int) < ((bytesD s).length : Nat) := by simpa using hb1
   omega
  obtain ⟨c, hc⟩ : ∃ c, s.data.toList[z]? = some c := ⟨_, gE (by rw [bytes_len]; exact hlt)⟩
  have hcd := bytesD_get hc
  refine Z268 ?_
  refine vq rfl (qI u243 sz5) ?_
  refine vq rfl (qL u5) ?_
  refine Z1 ?_;refine Z277 ?_;refine Z99 ?_;refine Z249 ?_
  refine sg rfl (fun hg => sP 25 rfl hg q_leq) ?_
  refine Z241 ?_;refine Z19 ?_
  refine sg rfl (fun hg => sP 29 rfl hg q_geq) ?_
  refine sg rfl (fun hg => sP 30 rfl hg qM) ?_
  refine Z19 ?_
  refine sg rfl (fun hg => sP 32 rfl hg q_leq) ?_
  refine sg rfl (fun hg => sP 31 rfl hg q_and) ?_
  refine Z22 ?_;refine Z249 ?_
  refine sg rfl (fun hg => sP 37 rfl hg q_eql) ?_
  refine Z22 ?_;refine Z1 ?_;refine Z30 ?_
  refine gP [0, 2, 3, 4, 5, 15, 16, 17] ?_
  refine Z253 ?_;refine Z41 ?_;refine Z249 ?_
  refine sg rfl (fun hg => sP 43 rfl hg q_eql) ?_
  refine sg rfl (fun hg => sP 44 rfl hg qM) ?_
  refine Z19 ?_
  refine sg rfl (fun hg => sP 46 rfl hg q_lss) ?_
  refine sg rfl (fun hg => sP 45 rfl hg q_or) ?_
  refine sg rfl (fun hg => sP 48 rfl hg qM) ?_
  refine Z19 ?_
  refine sg rfl (fun hg => sP 50 rfl hg q_gtr) ?_
  refine sg rfl (fun hg => sP 49 rfl hg q_or) ?_
  refine Z287 ?_
  refine gC ?_ ?_ <;> intro hb2
  ·
   have hch : charOk z (c.toNat : Nat) = false := by
    simp only [Bool.and_eq_true, Bool.or_eq_true, Bool.not_eq_true', Bool.or_eq_false_iff, Bool.and_eq_false_iff, decide_eq_true_eq, decide_eq_false_iff_not, beq_iff_eq, beq_eq_false_iff_ne, bne_iff_ne, bne_eq_false_iff_eq] at hb2
    simp only [charOk, letterB, Bool.or_eq_false_iff, Bool.and_eq_false_iff, Bool.not_eq_false', decide_eq_true_eq, decide_eq_false_iff_not]
    omega
   refine Z53 ?_
   refine gP [0, 2, 3, 4, 5, 15, 16, 17] ?_
   refine Z14 ?_;refine Z242 ?_;refine Z276 ?_;refine Z4 ?_
   exact ⟨by rw [nameB, zipIdx_not (p := fun i (c : UInt8) => charOk i (c.toNat : Nat)) hc hch, Bool.and_false], rfl⟩
  have hch : charOk z (c.toNat : Nat) = true := by
   simp only [Bool.and_eq_false_iff, Bool.or_eq_false_iff, Bool.not_eq_false', Bool.or_eq_true, Bool.and_eq_true, decide_eq_true_eq, decide_eq_false_iff_not, beq_iff_eq, beq_eq_false_iff_ne, bne_iff_ne, bne_eq_false_iff_eq] at hb2
   simp only [charOk, letterB, Bool.or_eq_true, Bool.and_eq_true, Bool.not_eq_true', decide_eq_true_eq, decide_eq_false_iff_not]
   omega
  refine gK (bN (tN ?_))
  refine gP [0, 2, 3, 4, 5, 15, 16, 17] ?_
  refine Z285 ?_
  refine hn0 _ (z + 1) ⟨by omega, upto_step (p := fun i (c : UInt8) => charOk i (c.toNat : Nat)) hz2 hc hch⟩ (by omega) le_of
 have hge : z = s.size := by
  have : ¬ (z : Int) < ((bytesD s).length : Nat) := by simpa using hb1
  omega
 refine Z259 ?_;refine Z229 ?_
 exact ⟨by rw [nameB, zipIdx_all (p := fun i (c : UInt8) => charOk i (c.toNat : Nat)) (fun i hi x hx => hz2 i (by rw [bytes_len] at hi; omega) x hx)]; simp; omega, rfl⟩
def hasB (ns : List ByteArray) (n : ByteArray) : Bool := ns.any fun s => decide (n = s)
theorem strs_get {ns : List ByteArray} {s : ByteArray} (h : ns[z]? = some s) : (ns.map D.str)[z]? = some (.str s) := by rw [List.getElem?_map, h]; rfl
theorem c260 (ts : List ByteArray) (v : ByteArray) (hlim : ts.length ≤ 140737488355328) : Pf Tryz.prog 260 [.sl (ts.map .str), .str v] (.d (.int .i64 (idxL (fun s => decide (v = s)) ts))) := by
 refine pf_body (rvs := [.tmp 4]) [(0, .d (.sl (ts.map .str))), (1, .d (.str v))] Tryz.func260 Tryz.ntmps260 Tryz.results260 (fun S0 O0 w0 m0 hm0 => ?_)
 refine Z272 ?_
 refine vq rfl (q_len u63) ?_
 refine Z246 ?_
 refine g_loop (α := Nat) (fun z => ⟨[(8, .d (.int .i64 (z : Nat))), (7, .d (.int .i64 ((ts.map D.str).length : Nat))), (6, .d (.sl (ts.map .str))), (1, .d (.str v)), (0, .d (.sl (ts.map .str)))], []⟩) (fun z => ts.length - z) (fun z => z ≤ ts.length ∧ ∀ i, i < z → ∀ x, ts[i]? = some x → (fun s => decide (v = s)) x = false) 0 ⟨Nat.zero_le _, by simp⟩ (fun z hz Q' hn0 he0 hr0 => ?_) (le_of)
 obtain ⟨hz1, hz2⟩ := hz
 refine Z248 ?_
 refine gC ?_ ?_ <;> intro hb0
 ·
  have hlt : z < ts.length := by simpa using hb0
  obtain ⟨x, hx⟩ : ∃ x, ts[z]? = some x := ⟨_, gE hlt⟩
  have hmem := mG hx
  have hxd := strs_get hx
  refine Z268 ?_;refine Z230 ?_;refine Z231 ?_;refine Z0 ?_
  refine vq rfl (qI u63 sz9) ?_
  refine Z49 ?_;refine Z96 ?_;refine Z10 ?_
  refine gC ?_ ?_ <;> intro hb1
  ·
   refine Z254 ?_;refine Z242 ?_;refine Z276 ?_
   exact Y2
  refine Z284 ?_
  refine hn0 _ (z + 1) ⟨by omega, idxL_step hz2 hx hb1⟩ (by omega) le_of
 have hge : z = ts.length := by
  have : ¬ (z : Int) < (ts.map D.str).length := by simpa using hb0
  rw [List.length_map] at this
  omega
 refine Z259 ?_;refine Z228 ?_
 exact Y3
theorem c282 (ts : List ByteArray) (g : FuncId) (fa fc : List D) (p : ByteArray → Bool) (hlim : ts.length ≤ 140737488355328)
 (hcb : ∀ x ∈ ts, Pf Tryz.prog g (fa ++ [.str x] ++ fc) (.d (.bool (p x)))) : Pf Tryz.prog 282 [.sl (ts.map .str), .fn (.func g) fa fc] (.d (.int .i64 (idxL p ts))) := by
 refine pf_body (rvs := [.tmp 4]) [(0, .d (.sl (ts.map .str))), (1, .d (.fn (.func g) fa fc))] Tryz.func282 Tryz.ntmps282 Tryz.results282 (fun S0 O0 w0 m0 hm0 => ?_)
 refine Z272 ?_
 refine vq rfl (q_len u63) ?_
 refine Z246 ?_
 refine g_loop (α := Nat) (fun z => ⟨[(8, .d (.int .i64 (z : Nat))), (7, .d (.int .i64 ((ts.map D.str).length : Nat))), (6, .d (.sl (ts.map .str))), (1, .d (.fn (.func g) fa fc)), (0, .d (.sl (ts.map .str)))], []⟩) (fun z => ts.length - z) (fun z => z ≤ ts.length ∧ ∀ i, i < z → ∀ x, ts[i]? = some x → p x = false) 0 ⟨Nat.zero_le _, by simp⟩ (fun z hz Q' hn0 he0 hr0 => ?_) (le_of)
 obtain ⟨hz1, hz2⟩ := hz
 refine Z248 ?_
 refine gC ?_ ?_ <;> intro hb0
 ·
  have hlt : z < ts.length := by simpa using hb0
  obtain ⟨x, hx⟩ : ∃ x, ts[z]? = some x := ⟨_, gE hlt⟩
  have hmem := mG hx
  have hxd := strs_get hx
  refine Z268 ?_;refine Z230 ?_;refine Z231 ?_;refine Z0 ?_
  refine vq rfl (qI u63 sz9) ?_
  refine Z49 ?_
  refine gL (xs := [.tmp 15]) rfl (hcb x hmem) ?_
  refine Z10 ?_
  refine gC ?_ ?_ <;> intro hb1
  ·
   refine Z254 ?_;refine Z242 ?_;refine Z276 ?_
   exact Y2
  refine Z284 ?_
  refine hn0 _ (z + 1) ⟨by omega, idxL_step hz2 hx hb1⟩ (by omega) le_of
 have hge : z = ts.length := by
  have : ¬ (z : Int) < (ts.map D.str).length := by simpa using hb0
  rw [List.length_map] at this
  omega
 refine Z259 ?_;refine Z228 ?_
 exact Y3
theorem c199 (ts : List ByteArray) (v : ByteArray) (hlim : ts.length ≤ 140737488355328) : Pf Tryz.prog 199 [.sl (ts.map .str), .str v] (.d (.bool (hasB ts v))) := by
 refine pf_body (rvs := [.tmp 4]) [(0, .d (.sl (ts.map .str))), (1, .d (.str v))] Tryz.func199 Tryz.ntmps199 Tryz.results199 (fun S0 O0 w0 m0 hm0 => ?_)
 refine Z274 ?_
 refine gL (xs := [.tmp 5, .tmp 6]) rfl (c260 ts v hlim) ?_
 refine Z99 ?_;refine Z229 ?_
 exact ⟨by rw [idxL_any]; rfl, rfl⟩
theorem c230 (ts : List ByteArray) (g : FuncId) (fa fc : List D) (p : ByteArray → Bool) (hlim : ts.length ≤ 140737488355328)
 (hcb : ∀ x ∈ ts, Pf Tryz.prog g (fa ++ [.str x] ++ fc) (.d (.bool (p x)))) : Pf Tryz.prog 230 [.sl (ts.map .str), .fn (.func g) fa fc] (.d (.bool (ts.any p))) := by
 refine pf_body (rvs := [.tmp 4]) [(0, .d (.sl (ts.map .str))), (1, .d (.fn (.func g) fa fc))] Tryz.func230 Tryz.ntmps230 Tryz.results230 (fun S0 O0 w0 m0 hm0 => ?_)
 refine Z274 ?_
 refine gL (xs := [.tmp 5, .tmp 6]) rfl (c282 ts g fa fc p hlim hcb) ?_
 refine Z99 ?_;refine Z229 ?_
 exact Y5
def kindOk (c : Int) (op : Int) : Bool := if c = 101 then isExprB op else if c = 98 then decide (op = 66) else if c = 110 then decide (op = 4) else true
def kidsB (ks : List Tr) (s : ByteArray) : Bool := decide (ks.length = s.size) && ks.zipIdx.all fun x => kindOk ((s[x.2]!).toNat : Nat) x.1.op
theorem kidsB_len {ks : List Tr} {s : ByteArray} (h : kidsB ks s = true) : ks.length = s.size := by
 unfold kidsB at h
 rw [Bool.and_eq_true, decide_eq_true_eq] at h
 exact h.1
set_option maxHeartbeats 4000000 in
theorem c156 (t : Tr) (s : ByteArray) (hok : t.Ok) : Pf Tryz.prog 156 [t.d, .str s] (.d (.bool (kidsB t.kids s))) := by
 obtain ⟨op, name, num, ks⟩ := t
 rw [Tr.d_mk]
 try simp only [Tr.op_mk, Tr.nm_mk, Tr.nu_mk, Tr.kids_mk]
 cases hok with | mk h1 h2 h3 h4 h5 =>
 refine pf_body (rvs := [.tmp 4]) [(0, .d (.agg [.int .i64 op, .str name, .int .i64 num, .sl (ks.map Tr.d)])), (1, .d (.str s))] Tryz.func156 Tryz.ntmps156 Tryz.results156 (fun S0 O0 w0 m0 hm0 => ?_)
 refine Z245 ?_;refine Z233 ?_;refine Z250 ?_;refine Z47 ?_;refine Z0 ?_;refine Z156 ?_;refine Z261 ?_
 refine gC ?_ ?_ <;> intro hb0
 ·
  have hne : ¬ ks.length = s.size := by
   simp at hb0
   omega
  refine Z286 ?_
  exact ⟨by rw [kidsB]; simp [Tr.kids, hne], rfl⟩
 have hle : ks.length = s.size := by
  simp at hb0
  omega
 refine Z103 ?_;refine Z250 ?_;refine Z273 ?_
 refine g_loop (α := Nat) (fun z => ⟨[(16, .d (.int .i64 (z : Nat))), (15, .d (.int .i64 ((ks.map Tr.d).length : Nat))), (14, .d (.sl (ks.map Tr.d))), (1, .d (.str s))], []⟩) (fun z => ks.length - z) (fun z => z ≤ ks.length ∧ ∀ i, i < z → ∀ k, ks[i]? = some k → kindOk ((s[i]!).toNat : Nat) k.op = true) 0 ⟨Nat.zero_le _, by simp⟩ (fun z hz Q' hn0 he0 hr0 => ?_) (le_of)
 obtain ⟨hz1, hz2⟩ := hz
 refine Z248 ?_
 refine gC ?_ ?_ <;> intro hb1
 ·
  have hlt : z < ks.length := by simpa using hb1
  obtain ⟨k, hk⟩ : ∃ k, ks[z]? = some k := ⟨_, gE hlt⟩
  have hmem := mG hk
  have hxd := Tr.ds_get hk
  have hxa := hxd
  obtain ⟨kop, knm, knu, kks, hka⟩ := k.d_agg
  rw [hka] at hxa
  have hkop : k.op = kop := by obtain ⟨o, n, u, l⟩ := k; rw [Tr.d_mk] at hka; injection hka with hka; injection hka with hka; injection hka
  refine Z268 ?_;refine Z258 ?_;refine Z29 ?_;refine Z1 ?_;refine Z21 ?_;refine Z63 ?_;refine Z5 ?_;refine Z231 ?_
  refine vq rfl ((q_strindex u9 (h0 := by omega) (h1 := by omega))) ?_
  rw [Int.toNat_natCast]
  refine Z151 ?_;refine Z260 ?_
  refine gC ?_ ?_ <;> intro hb2
  ·
   refine Z53 ?_
   refine gP [0, 1, 2, 4, 5, 6, 14, 15, 16, 23] ?_
   refine Z14 ?_;refine Z238 ?_
   refine gL (xs := [.tmp 27]) rfl (c74 kop) ?_
   refine Z281 ?_
   refine gC ?_ ?_ <;> intro hb3
   ·
    refine Z288 ?_
    refine gN (tN (gT (bR (bR (tR ?_)))))
    refine Z276 ?_;refine Z4 ?_
    exact ⟨by rw [kidsB, zipIdx_not (p := fun i (k : Tr) => kindOk ((s[i]!).toNat : Nat) k.op) hk (by rw [hkop]; unfold kindOk; rw [if_pos (oR hb2)]; simpa using hb3), Bool.and_false], rfl⟩
   refine gK (bN (bN (tN (gR ?_))))
   refine Z239 ?_
   refine hn0 _ (z + 1) ⟨by omega, upto_step (p := fun i (k : Tr) => kindOk ((s[i]!).toNat : Nat) k.op) hz2 hk (by rw [hkop]; unfold kindOk; rw [if_pos (oR hb2)]; simpa using hb3)⟩ (by omega) le_of
  refine Z53 ?_
  refine gP [0, 1, 2, 4, 5, 6, 14, 15, 16, 23] ?_
  refine Z14 ?_;refine Z260 ?_
  refine gC ?_ ?_ <;> intro hb4
  ·
   refine Z3 ?_;refine Z238 ?_;refine Z261 ?_
   refine gC ?_ ?_ <;> intro hb5
   ·
    refine Z288 ?_
    refine gN (tN (gT (bR (bR (tR ?_)))))
    refine Z276 ?_;refine Z4 ?_
    exact ⟨by rw [kidsB, zipIdx_not (p := fun i (k : Tr) => kindOk ((s[i]!).toNat : Nat) k.op) hk (by rw [hkop]; unfold kindOk; rw [if_neg (of_decide_eq_false hb2), if_pos (oR hb4)]; simpa using hb5), Bool.and_false], rfl⟩
   refine gK (bN (bN (tN (gR ?_))))
   refine Z239 ?_
   refine hn0 _ (z + 1) ⟨by omega, upto_step (p := fun i (k : Tr) => kindOk ((s[i]!).toNat : Nat) k.op) hz2 hk (by rw [hkop]; unfold kindOk; rw [if_neg (of_decide_eq_false hb2), if_pos (oR hb4)]; simpa using hb5)⟩ (by omega) le_of
  refine Z278 ?_
  refine gC ?_ ?_ <;> intro hb6
  ·
   refine Z3 ?_;refine Z238 ?_;refine Z261 ?_
   refine gC ?_ ?_ <;> intro hb7
   ·
    refine Z288 ?_
    refine gN (tN (gT (bR (bR (tR ?_)))))
    refine Z276 ?_;refine Z4 ?_
    exact ⟨by rw [kidsB, zipIdx_not (p := fun i (k : Tr) => kindOk ((s[i]!).toNat : Nat) k.op) hk (by rw [hkop]; unfold kindOk; rw [if_neg (of_decide_eq_false hb2), if_neg (of_decide_eq_false hb4), if_pos (oR hb6)]; simpa using hb7), Bool.and_false], rfl⟩
   refine gK (bN (bN (tN (gR ?_))))
   refine Z239 ?_
   refine hn0 _ (z + 1) ⟨by omega, upto_step (p := fun i (k : Tr) => kindOk ((s[i]!).toNat : Nat) k.op) hz2 hk (by rw [hkop]; unfold kindOk; rw [if_neg (of_decide_eq_false hb2), if_neg (of_decide_eq_false hb4), if_pos (oR hb6)]; simpa using hb7)⟩ (by omega) le_of
  refine gK (bN (bN (tN (gR ?_))))
  refine Z239 ?_
  refine hn0 _ (z + 1) ⟨by omega, upto_step (p := fun i (k : Tr) => kindOk ((s[i]!).toNat : Nat) k.op) hz2 hk (by rw [hkop]; unfold kindOk; rw [if_neg (of_decide_eq_false hb2), if_neg (of_decide_eq_false hb4), if_neg (of_decide_eq_false hb6)])⟩ (by omega) le_of
 have hge : z = ks.length := by
  have : ¬ (z : Int) < (ks.map Tr.d).length := by simpa using hb1
  rw [List.length_map] at this
  omega
 refine Z259 ?_;refine Z229 ?_
 exact ⟨by rw [kidsB, zipIdx_all (p := fun i (k : Tr) => kindOk ((s[i]!).toNat : Nat) k.op) (fun i hi x hx => hz2 i (by have : i < ks.length := hi; omega) x hx)]; simp [Tr.kids, hle], rfl⟩
end
section
theorem c160 (op : Int) : Pf Tryz.prog 160 [.int .i64 op] (.d (.bool (op == 66))) := by
 refine pf_body (rvs := [.tmp 2]) [(0, .d (.int .i64 op))] Tryz.func160 Tryz.ntmps160 Tryz.results160 (fun S0 O0 w0 m0 hm0 => ?_)
 refine Z280 ?_;refine Z20 ?_;refine Z229 ?_
 exact ⟨rfl, rfl⟩
theorem c232 (op : Int) : Pf Tryz.prog 232 [.int .i64 op] (.d (.bool (op == 67))) := by
 refine pf_body (rvs := [.tmp 2]) [(0, .d (.int .i64 op))] Tryz.func232 Tryz.ntmps232 Tryz.results232 (fun S0 O0 w0 m0 hm0 => ?_)
 refine Z280 ?_;refine Z20 ?_;refine Z229 ?_
 exact ⟨rfl, rfl⟩
theorem c163 (op : Int) : Pf Tryz.prog 163 [.int .i64 op] (.d (.bool (isExprB op || op == 3))) := by
 refine pf_body (rvs := [.tmp 2]) [(0, .d (.int .i64 op))] Tryz.func163 Tryz.ntmps163 Tryz.results163 (fun S0 O0 w0 m0 hm0 => ?_)
 refine Z280 ?_
 refine gL (xs := [.tmp 3]) rfl (c74 op) ?_
 refine Z249 ?_
 refine sg rfl (fun hg => sP 6 rfl hg q_eql) ?_
 refine Z275 ?_
 exact ⟨rfl, rfl⟩
theorem c286 (op : Int) : Pf Tryz.prog 286 [.int .i64 op] (.d (.bool (isExprB op || op == 30))) := by
 refine pf_body (rvs := [.tmp 2]) [(0, .d (.int .i64 op))] Tryz.func286 Tryz.ntmps286 Tryz.results286 (fun S0 O0 w0 m0 hm0 => ?_)
 refine Z280 ?_
 refine gL (xs := [.tmp 3]) rfl (c74 op) ?_
 refine Z249 ?_
 refine sg rfl (fun hg => sP 6 rfl hg q_eql) ?_
 refine Z275 ?_
 exact ⟨rfl, rfl⟩
theorem c233 (t : Tr) (g : FuncId) (p : Int → Bool) (hcb : ∀ op, Pf Tryz.prog g [.int .i64 op] (.d (.bool (p op)))) : Pf Tryz.prog 233 [t.d, .ptr (.fn (.func g) [] [])] (.d (.bool (!p t.op))) := by
 obtain ⟨op, name, num, ks⟩ := t
 rw [Tr.d_mk]
 try simp only [Tr.op_mk, Tr.nm_mk, Tr.nu_mk, Tr.kids_mk]
 refine pf_body (rvs := [.tmp 3]) [(0, .d (.agg [.int .i64 op, .str name, .int .i64 num, .sl (ks.map Tr.d)])), (1, .d (.ptr (.fn (.func g) [] [])))] Tryz.func233 Tryz.ntmps233 Tryz.results233 (fun S0 O0 w0 m0 hm0 => ?_)
 refine Z267 ?_
 refine vq rfl (qL u109) ?_
 refine Z238 ?_
 refine gL (xs := [.tmp 6]) rfl (hcb op) ?_
 refine Z41 ?_;refine Z229 ?_
 exact ⟨rfl, rfl⟩
def everyB (p : Int → Bool) (ks : List Tr) : Bool := !(ks.any fun k => !p k.op)
theorem Tr.kids_len {t : Tr} (h : t.Ok) : t.kids.length ≤ 140737488355328 := by cases h; assumption
theorem Tr.kids_ok {t : Tr} (h : t.Ok) : ∀ k ∈ t.kids, k.Ok := by cases h; assumption
theorem c159 (t : Tr) (g : FuncId) (p : Int → Bool) (hok : t.Ok) (hcb : ∀ op, Pf Tryz.prog g [.int .i64 op] (.d (.bool (p op)))) : Pf Tryz.prog 159 [t.d, .fn (.func g) [] []] (.d (.bool (everyB p t.kids))) := by
 obtain ⟨op, name, num, ks⟩ := t
 rw [Tr.d_mk]
 try simp only [Tr.op_mk, Tr.nm_mk, Tr.nu_mk, Tr.kids_mk]
 refine pf_body (rvs := [.tmp 4]) [(0, .d (.agg [.int .i64 op, .str name, .int .i64 num, .sl (ks.map Tr.d)])), (1, .d (.fn (.func g) [] []))] Tryz.func159 Tryz.ntmps159 Tryz.results159 (fun S0 O0 w0 m0 hm0 => ?_)
 refine Z245 ?_;refine Z13 ?_
 refine gF 0 [] (.fn (.func g) [] []) rfl ?_
 refine Z230 ?_;refine Z250 ?_
 refine vq rfl (q_makeFunc (xs := []) (ys := [.tmp 3])) ?_
 refine gL (xs := [.tmp 6, .tmp 7]) rfl (c52 ks 233 [] [.ptr (.fn (.func g) [] [])] (fun k => !p k.op) (Tr.kids_len hok) (fun x hx => c233 x g p hcb)) ?_
 refine Z41 ?_;refine Z229 ?_
 exact ⟨rfl, rfl⟩
theorem c152 (t : Tr) : Pf Tryz.prog 152 [t.d] (.d (.bool true)) := by
 obtain ⟨op, name, num, ks⟩ := t
 rw [Tr.d_mk]
 try simp only [Tr.op_mk, Tr.nm_mk, Tr.nu_mk, Tr.kids_mk]
 refine pf_body (rvs := [.tmp 2]) [(0, .d (.agg [.int .i64 op, .str name, .int .i64 num, .sl (ks.map Tr.d)]))] Tryz.func152 Tryz.ntmps152 Tryz.results152 (fun S0 O0 w0 m0 hm0 => ?_)
 refine Z267 ?_;refine Z229 ?_
 exact ⟨rfl, rfl⟩
def rule154 (t : Tr) : Bool := (t.nu == 0 || t.nu == 1) && (t.kids.length : Int) == 0
def opK (i : Nat) (ks : List Tr) : Int := match ks[i]? with | some k => k.op | none => 0
def ee : ByteArray := ⟨#[101, 101]⟩
def rule155 (t : Tr) : Bool := kidsB t.kids ee && (opK 0 t.kids == 4 || opK 0 t.kids == 12)
def rule158 (t : Tr) : Bool := decide ((t.kids.length : Int) > 0) && everyB (fun op => op == 66) t.kids
def rule161 (t : Tr) : Bool := (t.kids.length : Int) == 1 && (opK 0 t.kids == 13 || opK 0 t.kids == 15)
theorem c154 (t : Tr) : Pf Tryz.prog 154 [t.d] (.d (.bool (rule154 t))) := by
 obtain ⟨op, name, num, ks⟩ := t
 rw [Tr.d_mk]
 try simp only [Tr.op_mk, Tr.nm_mk, Tr.nu_mk, Tr.kids_mk]
 refine pf_body (rvs := [.tmp 2]) [(0, .d (.agg [.int .i64 op, .str name, .int .i64 num, .sl (ks.map Tr.d)]))] Tryz.func154 Tryz.ntmps154 Tryz.results154 (fun S0 O0 w0 m0 hm0 => ?_)
 refine Z267 ?_;refine Z266 ?_;refine Z263 ?_;refine Z166 ?_
 refine sg rfl (fun hg => sP 8 rfl hg q_eql) ?_
 refine Z22 ?_;refine Z0 ?_;refine Z44 ?_
 refine sg rfl (fun hg => sP 12 rfl hg (qL u22)) ?_
 refine sg rfl (fun hg => sP 13 rfl hg (q_len u22)) ?_
 refine sg rfl (fun hg => sP 14 rfl hg q_eql) ?_
 refine Z257 ?_
 exact ⟨by simp [rule154, Tr.nu, Tr.kids], rfl⟩
theorem c155 (t : Tr) (hok : t.Ok) : Pf Tryz.prog 155 [t.d] (.d (.bool (rule155 t))) := by
 obtain ⟨op, name, num, ks⟩ := t
 rw [Tr.d_mk]
 try simp only [Tr.op_mk, Tr.nm_mk, Tr.nu_mk, Tr.kids_mk]
 refine pf_body (rvs := [.tmp 2]) [(0, .d (.agg [.int .i64 op, .str name, .int .i64 num, .sl (ks.map Tr.d)]))] Tryz.func155 Tryz.ntmps155 Tryz.results155 (fun S0 O0 w0 m0 hm0 => ?_)
 refine Z267 ?_;refine Z8 ?_
 refine gL (xs := [.tmp 3, .const (.string ⟨#[101, 101]⟩)]) rfl ((Tr.d_mk op name num ks ▸ c156 (.mk op name num ks) ee hok)) ?_
 refine Z0 ?_
 refine g_split 5 true (fun hsp => ?_) (fun hsp => ?_)
 ·
  obtain ⟨k, r, hks⟩ : ∃ k r, ks = k :: r := by
   cases hks : ks with
   | nil => exfalso; have := kidsB_len (by simpa using hsp); rw [show (Tr.mk op name num ks).kids = ks from rfl, hks] at this; exact absurd this (by decide)
   | cons k r => exact ⟨k, r, rfl⟩
  subst hks
  obtain ⟨kop, knm, knu, kks, hka⟩ := k.d_agg
  have hkop : k.op = kop := by obtain ⟨o, n, u, l⟩ := k; rw [Tr.d_mk] at hka; injection hka with hka; injection hka with hka; injection hka
  have hxa : ((k :: r).map Tr.d)[0]? = some (.agg [.int .i64 kop, .str knm, .int .i64 knu, .sl (kks.map Tr.d)]) := by rw [← hka]; rfl
  refine sgo rfl hsp (y_fieldp_leaf u27 rfl sz22) ?_
  refine sgo rfl hsp (y_loadp_leaf u22) ?_
  refine Z199 ?_;refine Z195 ?_;refine Z213 ?_
  refine sgo rfl hsp y_eql ?_
  refine Z95 ?_;refine Z44 ?_;refine Z193 ?_
  refine sg rfl (fun hg => sP 14 rfl hg (qI u22 sz27)) ?_
  refine sg rfl (fun hg => sP 15 rfl hg (qF u27 rfl sz3)) ?_
  refine sg rfl (fun hg => sP 16 rfl hg (qL u3)) ?_
  refine sg rfl (fun hg => sP 17 rfl hg q_eql) ?_
  refine sgo rfl hsp y_or ?_
  refine Z257 ?_
  exact ⟨by simp [rule155, Tr.kids, opK, hkop], rfl⟩
 skip
 refine Z264 ?_;refine Z264 ?_;refine Z264 ?_;refine Z237 ?_;refine Z257 ?_
 exact ⟨by simp [rule155, Tr.kids] at hsp ⊢; simp [hsp], rfl⟩
theorem c158 (t : Tr) (hok : t.Ok) : Pf Tryz.prog 158 [t.d] (.d (.bool (rule158 t))) := by
 obtain ⟨op, name, num, ks⟩ := t
 rw [Tr.d_mk]
 try simp only [Tr.op_mk, Tr.nm_mk, Tr.nu_mk, Tr.kids_mk]
 refine pf_body (rvs := [.tmp 2]) [(0, .d (.agg [.int .i64 op, .str name, .int .i64 num, .sl (ks.map Tr.d)]))] Tryz.func158 Tryz.ntmps158 Tryz.results158 (fun S0 O0 w0 m0 hm0 => ?_)
 refine Z267 ?_;refine Z250 ?_;refine Z47 ?_;refine Z109 ?_;refine Z0 ?_;refine Z70 ?_
 refine g_callg (xs := [.tmp 8, .func 160]) rfl (fun hg => (Tr.d_mk op name num ks ▸ c159 (.mk op name num ks) 160 (fun op => op == 66) hok c160)) ?_
 refine Z257 ?_
 exact ⟨by simp [rule158, Tr.kids], rfl⟩
theorem c161 (t : Tr) (hok : t.Ok) : Pf Tryz.prog 161 [t.d] (.d (.bool (rule161 t))) := by
 obtain ⟨op, name, num, ks⟩ := t
 rw [Tr.d_mk]
 try simp only [Tr.op_mk, Tr.nm_mk, Tr.nu_mk, Tr.kids_mk]
 refine pf_body (rvs := [.tmp 2]) [(0, .d (.agg [.int .i64 op, .str name, .int .i64 num, .sl (ks.map Tr.d)]))] Tryz.func161 Tryz.ntmps161 Tryz.results161 (fun S0 O0 w0 m0 hm0 => ?_)
 refine Z267 ?_;refine Z250 ?_;refine Z47 ?_;refine Z20 ?_;refine Z0 ?_
 refine g_split 7 true (fun hsp => ?_) (fun hsp => ?_)
 ·
  obtain ⟨k, r, hks⟩ : ∃ k r, ks = k :: r := by
   cases hks : ks with
   | nil => exfalso; rw [hks] at hsp; exact absurd hsp (by decide)
   | cons k r => exact ⟨k, r, rfl⟩
  subst hks
  obtain ⟨kop, knm, knu, kks, hka⟩ := k.d_agg
  have hkop : k.op = kop := by obtain ⟨o, n, u, l⟩ := k; rw [Tr.d_mk] at hka; injection hka with hka; injection hka with hka; injection hka
  have hxa : ((k :: r).map Tr.d)[0]? = some (.agg [.int .i64 kop, .str knm, .int .i64 knu, .sl (kks.map Tr.d)]) := by rw [← hka]; rfl
  refine sgo rfl hsp (y_fieldp_leaf u27 rfl sz22) ?_
  refine sgo rfl hsp (y_loadp_leaf u22) ?_
  refine Z199 ?_;refine Z195 ?_;refine Z213 ?_
  refine sgo rfl hsp y_eql ?_
  refine Z95 ?_;refine Z44 ?_
  refine sg rfl (fun hg => sP 15 rfl hg (qL u22)) ?_
  refine sg rfl (fun hg => sP 16 rfl hg (qI u22 sz27)) ?_
  refine sg rfl (fun hg => sP 17 rfl hg (qF u27 rfl sz3)) ?_
  refine sg rfl (fun hg => sP 18 rfl hg (qL u3)) ?_
  refine sg rfl (fun hg => sP 19 rfl hg q_eql) ?_
  refine sgo rfl hsp y_or ?_
  refine Z257 ?_
  exact ⟨by simp [rule161, Tr.kids, opK, hkop], rfl⟩
 skip
 refine Z264 ?_;refine Z264 ?_;refine Z264 ?_;refine Z237 ?_;refine Z257 ?_
 exact ⟨by simp [rule161, Tr.kids] at hsp ⊢; simp [hsp], rfl⟩
theorem c162 (t : Tr) (hok : t.Ok) : Pf Tryz.prog 162 [t.d] (.d (.bool (everyB (fun op => isExprB op || op == 3) t.kids))) := by
 obtain ⟨op, name, num, ks⟩ := t
 rw [Tr.d_mk]
 try simp only [Tr.op_mk, Tr.nm_mk, Tr.nu_mk, Tr.kids_mk]
 refine pf_body (rvs := [.tmp 2]) [(0, .d (.agg [.int .i64 op, .str name, .int .i64 num, .sl (ks.map Tr.d)]))] Tryz.func162 Tryz.ntmps162 Tryz.results162 (fun S0 O0 w0 m0 hm0 => ?_)
 refine Z267 ?_;refine Z8 ?_
 refine gL (xs := [.tmp 3, .func 163]) rfl ((Tr.d_mk op name num ks ▸ c159 (.mk op name num ks) 163 (fun op => isExprB op || op == 3) hok c163)) ?_
 refine Z229 ?_
 exact ⟨rfl, rfl⟩
theorem c164 (t : Tr) (hok : t.Ok) : Pf Tryz.prog 164 [t.d] (.d (.bool (everyB isStmtB t.kids))) := by
 obtain ⟨op, name, num, ks⟩ := t
 rw [Tr.d_mk]
 try simp only [Tr.op_mk, Tr.nm_mk, Tr.nu_mk, Tr.kids_mk]
 refine pf_body (rvs := [.tmp 2]) [(0, .d (.agg [.int .i64 op, .str name, .int .i64 num, .sl (ks.map Tr.d)]))] Tryz.func164 Tryz.ntmps164 Tryz.results164 (fun S0 O0 w0 m0 hm0 => ?_)
 refine Z267 ?_;refine Z8 ?_
 refine gL (xs := [.tmp 3, .func 95]) rfl ((Tr.d_mk op name num ks ▸ c159 (.mk op name num ks) 95 isStmtB hok c95)) ?_
 refine Z229 ?_
 exact ⟨rfl, rfl⟩
theorem c153 (ts : List ByteArray) : Pf Tryz.prog 153 [.sl (ts.map .str)] (.d (.fn (.func 229) [] [.ptr (.sl (ts.map .str))])) := by
 refine pf_body (rvs := [.tmp 2]) [(0, .d (.sl (ts.map .str)))] Tryz.func153 Tryz.ntmps153 Tryz.results153 (fun S0 O0 w0 m0 hm0 => ?_)
 refine Z232 ?_
 refine gF 0 [] (.sl (ts.map .str)) rfl ?_
 refine Z230 ?_;refine Z181 ?_;refine Z228 ?_
 refine find1 (by simp) ?_
 exact ⟨rfl, rfl⟩
theorem c231 (t : Tr) (s : ByteArray) (hok : t.Ok) : Pf Tryz.prog 231 [.str s, .ptr t.d] (.d (.bool (kidsB t.kids s))) := by
 obtain ⟨op, name, num, ks⟩ := t
 rw [Tr.d_mk]
 try simp only [Tr.op_mk, Tr.nm_mk, Tr.nu_mk, Tr.kids_mk]
 refine pf_body (rvs := [.tmp 3]) [(0, .d (.str s)), (1, .d (.ptr (.agg [.int .i64 op, .str name, .int .i64 num, .sl (ks.map Tr.d)])))] Tryz.func231 Tryz.ntmps231 Tryz.results231 (fun S0 O0 w0 m0 hm0 => ?_)
 refine Z240 ?_;refine Z8 ?_;refine Z0 ?_
 refine gL (xs := [.tmp 4, .tmp 5]) rfl ((Tr.d_mk op name num ks ▸ c156 (.mk op name num ks) s hok)) ?_
 refine Z229 ?_
 exact ⟨rfl, rfl⟩
def formsB (ts : List ByteArray) (t : Tr) : Bool := ts.any fun s => kidsB t.kids s
theorem c229 (t : Tr) (ts : List ByteArray) (hok : t.Ok) (hlim : ts.length ≤ 140737488355328) : Pf Tryz.prog 229 [t.d, .ptr (.sl (ts.map .str))] (.d (.bool (formsB ts t))) := by
 obtain ⟨op, name, num, ks⟩ := t
 rw [Tr.d_mk]
 try simp only [Tr.op_mk, Tr.nm_mk, Tr.nu_mk, Tr.kids_mk]
 refine pf_body (rvs := [.tmp 3]) [(0, .d (.agg [.int .i64 op, .str name, .int .i64 num, .sl (ks.map Tr.d)])), (1, .d (.ptr (.sl (ts.map .str))))] Tryz.func229 Tryz.ntmps229 Tryz.results229 (fun S0 O0 w0 m0 hm0 => ?_)
 refine Z267 ?_
 refine vq rfl (qL u63) ?_
 refine vq rfl (q_makeFunc (xs := []) (ys := [.tmp 2])) ?_
 refine gL (xs := [.tmp 4, .tmp 5]) rfl (c230 ts 231 [] [.ptr (.agg [.int .i64 op, .str name, .int .i64 num, .sl (ks.map Tr.d)])] (fun s => kidsB ks s) hlim (fun x hx => Tr.d_mk op name num ks ▸ c231 (.mk op name num ks) x hok)) ?_
 refine Z229 ?_
 exact ⟨rfl, rfl⟩
end
end Go.Proofs.YtklkbfpjimeaoaaGreat
