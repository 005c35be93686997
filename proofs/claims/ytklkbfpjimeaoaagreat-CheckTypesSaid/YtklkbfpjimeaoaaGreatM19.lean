import Derived.Test.YtklkbfpjimeaoaaGreatM18
import Derived.Test.YtklkbfpjimeaoaaGreatM12
/- Contracts of functions. Conditions: none. -/
set_option linter.unusedSimpArgs false
set_option linter.unusedVariables false
set_option maxRecDepth 20000
namespace Go.Proofs.YtklkbfpjimeaoaaGreat
open Go Go.Proofs.YtklkbfpjimeaoaaGreat.E
section
def letterB (c : Int) : Bool := (decide (c ≥ 97) && decide (c ≤ 122)) || (decide (c ≥ 65) && decide (c ≤ 90)) || decide (c = 95)
def charOk (i : Nat) (c : Int) : Bool := letterB c || (!decide (i = 0) && (decide (c ≥ 48) && decide (c ≤ 57)))
def nameB (s : ByteArray) : Bool := !(decide ((s.size : Int) < 1) || decide ((s.size : Int) > 40)) && s.data.toList.zipIdx.all fun x => charOk x.2 (x.1.toNat : Nat)
def preB (s p : ByteArray) : Bool := decide ((s.size : Int) ≥ (p.size : Nat)) && decide (s.extract 0 p.size = p)
def trimB (s p : ByteArray) : ByteArray := if preB s p = true then s.extract p.size s.size else s
theorem zipIdx_all {α : Type} {p : Nat → α → Bool} {xs : List α} (h : ∀ i, i < xs.length → ∀ x, xs[i]? = some x → p i x = true) : (xs.zipIdx.all fun x => p x.2 x.1) = true := by
 rw [List.all_eq_true]
 rintro ⟨x, i⟩ hx
 have := List.mem_zipIdx_iff_getElem?.1 hx
 exact h i (lG this) x this
theorem zipIdx_not {α : Type} {p : Nat → α → Bool} {xs : List α} {i : Nat} {x : α} (hx : xs[i]? = some x) (h : p i x = false) : (xs.zipIdx.all fun x => p x.2 x.1) = false := by
 rw [List.all_eq_false]
 exact ⟨(x, i), List.mem_zipIdx_iff_getElem?.2 hx, by simp [h]⟩
variable {z : Nat}
theorem upto_step {α : Type} {p : Nat → α → Bool} {xs : List α} {x : α} (h : ∀ i, i < z → ∀ y, xs[i]? = some y → p i y = true) (hx : xs[z]? = some x) (hb : p z x = true) : ∀ i, i < z + 1 → ∀ y, xs[i]? = some y → p i y = true := fun i hi y hy => by
 by_cases hiz : i = z
 · subst hiz; rw [hx] at hy; injection hy with hy; subst hy; exact hb
 · exact h i (by omega) y hy
theorem bytesD_get {b : ByteArray} {c : UInt8} (h : b.data.toList[z]? = some c) : (bytesD b)[z]? = some (.int .u8 (c.toNat : Nat)) := by unfold bytesD; rw [List.getElem?_map, h]; rfl
theorem c319 (s p : ByteArray) : Pf Tryz.prog 319 [.str s, .str p] (.d (.bool (preB s p))) := by
 refine pf_body (rvs := [.tmp 4]) [(0, .d (.str s)), (1, .d (.str p))] Tryz.func319 Tryz.ntmps319 Tryz.results319 (fun S0 O0 w0 m0 hm0 => ?_)
 refine Z194 ?_;refine Z64 ?_;refine Z2 ?_;refine Z64 ?_;refine Z83 ?_;refine Z2 ?_
 refine g_split 10 true (fun hsp => ?_) (fun hsp => ?_)
 ·
  refine Z72 ?_;refine Z72 ?_
  refine sgo rfl hsp (y_lenstr u9) ?_
  refine sgo rfl hsp (Yld_pure rfl (oR rfl) (q_strh u9 (h1 := by simpa using hsp))) ?_
  refine Z72 ?_
  refine sgo rfl hsp y_streq ?_
  refine Z172 ?_
  exact ⟨by simp [preB], rfl⟩
 refine Z154 ?_;refine Z135 ?_;refine Z172 ?_
 exact ⟨by simp at hsp; simp [preB]; omega, rfl⟩
theorem c287 (s p : ByteArray) : Pf Tryz.prog 287 [.str s, .str p] (.d (.str (trimB s p))) := by
 refine pf_body (rvs := [.tmp 4]) [(0, .d (.str s)), (1, .d (.str p))] Tryz.func287 Tryz.ntmps287 Tryz.results287 (fun S0 O0 w0 m0 hm0 => ?_)
 refine Z5 ?_;refine Z143 ?_;refine Z144 ?_
 refine gL (xs := [.tmp 5, .tmp 6]) rfl (c319 s p) ?_
 refine Z9 ?_
 refine zgC ?_ ?_ <;> intro hb0
 ·
  have hle : (p.size : Int) ≤ s.size := by
   simp only [preB, Bool.and_eq_true, decide_eq_true_eq] at hb0
   exact hb0.1
  refine Z5 ?_;refine Z144 ?_;refine Z64 ?_
  refine vq rfl ((q_strl u9)) ?_
  refine Z151 ?_
  exact ⟨by rw [trimB, if_pos hb0]; rfl, rfl⟩
 refine Z120 ?_;refine Z2 ?_;refine Z133 ?_
 exact ⟨by rw [trimB, if_neg (by simp [hb0])], rfl⟩
theorem c235 (s p : ByteArray) : Pf Tryz.prog 235 [.str s, .str p] (.d (.str (trimB s p))) := by
 refine pf_body (rvs := [.tmp 4]) [(0, .d (.str s)), (1, .d (.str p))] Tryz.func235 Tryz.ntmps235 Tryz.results235 (fun S0 O0 w0 m0 hm0 => ?_)
 refine Z157 ?_;refine Z144 ?_
 refine gL (xs := [.tmp 5, .tmp 6]) rfl (c287 s p) ?_
 refine Z133 ?_
 exact ⟨rfl, rfl⟩
set_option maxHeartbeats 1000000 in
theorem c167 (s : ByteArray) : Pf Tryz.prog 167 [.str s] (.d (.bool (nameB s))) := by
 refine pf_body (rvs := [.tmp 2]) [(0, .d (.str s))] Tryz.func167 Tryz.ntmps167 Tryz.results167 (fun S0 O0 w0 m0 hm0 => ?_)
 refine Z5 ?_;refine Z189 ?_;refine Z64 ?_;refine Z44 ?_;refine Z170 ?_
 refine sg rfl (fun hg => sP 10 rfl hg (q_lenstr u9)) ?_
 refine sg rfl (fun hg => sP 11 rfl hg q_gtr) ?_
 refine Z152 ?_
 refine zgC ?_ ?_ <;> intro hb0
 ·
  have hnm : nameB s = false := by unfold nameB; rw [hb0]; rfl
  refine Z5 ?_;refine Z151 ?_
  exact ⟨by rw [hnm], rfl⟩
 have hsz : 1 ≤ s.size ∧ s.size ≤ 40 := by
  simp only [Bool.or_eq_false_iff, decide_eq_false_iff_not] at hb0
  omega
 refine Z95 ?_;refine Z2 ?_
 refine sv rfl (y_strbytes u9 u243 u5) ?_
 refine vq rfl (q_len u243) ?_
 refine Z183 ?_
 refine g_loop (α := Nat) (fun z => ⟨[(17, .d (.int .i64 (z : Nat))), (16, .d (.int .i64 ((bytesD s).length : Nat))), (15, .d (.sl (bytesD s)))], []⟩) (fun z => s.size - z) (fun z => z ≤ s.size ∧ ∀ i, i < z → ∀ c, s.data.toList[i]? = some c → charOk i (c.toNat : Nat) = true) 0 ⟨Nat.zero_le _, by simp⟩ (fun z hz Q' hn0 he0 hr0 => ?_) (le_of)
 obtain ⟨hz1, hz2⟩ := hz
 have hbl := bytesD_length s
 refine Z185 ?_
 refine zgC ?_ ?_ <;> intro hb1
 ·
  have hlt : z < s.size := by
   have : (z : Int) < ((bytesD s).length : Nat) := by simpa using hb1
   omega
  obtain ⟨c, hc⟩ : ∃ c, s.data.toList[z]? = some c := ⟨_, gE (by rw [bytes_len]; exact hlt)⟩
  have hcd := bytesD_get hc
  refine Z24 ?_;refine Z2 ?_
  refine vq rfl (qI u243 sz5) ?_
  refine vq rfl (qL u5) ?_
  refine Z1 ?_;refine Z134 ?_;refine Z2 ?_;refine Z83 ?_;refine Z170 ?_
  refine sg rfl (fun hg => sP 25 rfl hg q_leq) ?_
  refine Z149 ?_;refine Z18 ?_
  refine sg rfl (fun hg => sP 29 rfl hg q_geq) ?_
  refine sg rfl (fun hg => sP 30 rfl hg qM) ?_
  refine Z18 ?_
  refine sg rfl (fun hg => sP 32 rfl hg q_leq) ?_
  refine sg rfl (fun hg => sP 31 rfl hg q_and) ?_
  refine Z22 ?_;refine Z170 ?_
  refine sg rfl (fun hg => sP 37 rfl hg q_eql) ?_
  refine Z22 ?_;refine Z1 ?_;refine Z55 ?_
  refine gP [0, 2, 3, 4, 5, 15, 16, 17] ?_
  refine Z17 ?_;refine Z2 ?_;refine Z54 ?_;refine Z170 ?_
  refine sg rfl (fun hg => sP 43 rfl hg q_eql) ?_
  refine sg rfl (fun hg => sP 44 rfl hg qM) ?_
  refine Z18 ?_
  refine sg rfl (fun hg => sP 46 rfl hg q_lss) ?_
  refine sg rfl (fun hg => sP 45 rfl hg q_or) ?_
  refine sg rfl (fun hg => sP 48 rfl hg qM) ?_
  refine Z18 ?_
  refine sg rfl (fun hg => sP 50 rfl hg q_gtr) ?_
  refine sg rfl (fun hg => sP 49 rfl hg q_or) ?_
  refine Z11 ?_;refine Z9 ?_
  refine zgC ?_ ?_ <;> intro hb2
  ·
   have hch : charOk z (c.toNat : Nat) = false := by
    simp only [Bool.and_eq_true, Bool.or_eq_true, Bool.not_eq_true', Bool.or_eq_false_iff, Bool.and_eq_false_iff, decide_eq_true_eq, decide_eq_false_iff_not, beq_iff_eq, beq_eq_false_iff_ne, bne_iff_ne, bne_eq_false_iff_eq] at hb2
    simp only [charOk, letterB, Bool.or_eq_false_iff, Bool.and_eq_false_iff, Bool.not_eq_false', decide_eq_true_eq, decide_eq_false_iff_not]
    omega
   refine Z38 ?_
   refine gP [0, 2, 3, 4, 5, 15, 16, 17] ?_
   refine Z17 ?_;refine Z190 ?_;refine Z4 ?_
   exact Y11
  have hch : charOk z (c.toNat : Nat) = true := by
   simp only [Bool.and_eq_false_iff, Bool.or_eq_false_iff, Bool.not_eq_false', Bool.or_eq_true, Bool.and_eq_true, decide_eq_true_eq, decide_eq_false_iff_not, beq_iff_eq, beq_eq_false_iff_ne, bne_iff_ne, bne_eq_false_iff_eq] at hb2
   simp only [charOk, letterB, Bool.or_eq_true, Bool.and_eq_true, Bool.not_eq_true', decide_eq_true_eq, decide_eq_false_iff_not]
   omega
  refine Z103 ?_
  refine gP [0, 2, 3, 4, 5, 15, 16, 17] ?_
  refine Z17 ?_;refine Z163 ?_
  refine hn0 _ (z + 1) ⟨by omega, upto_step (p := fun i (c : UInt8) => charOk i (c.toNat : Nat)) hz2 hc hch⟩ (by omega) le_of
 have hge : z = s.size := by
  have : ¬ (z : Int) < ((bytesD s).length : Nat) := by simpa using hb1
  omega
 refine Z164 ?_;refine Z133 ?_
 exact Y5
def hasB (ns : List ByteArray) (n : ByteArray) : Bool := ns.any fun s => decide (n = s)
theorem strs_get {ns : List ByteArray} {s : ByteArray} (h : ns[z]? = some s) : (ns.map D.str)[z]? = some (.str s) := by rw [List.getElem?_map, h]; rfl
theorem c260 (ts : List ByteArray) (v : ByteArray) (hlim : ts.length ≤ 140737488355328) : Pf Tryz.prog 260 [.sl (ts.map .str), .str v] (.d (.int .i64 (idxL (fun s => decide (v = s)) ts))) := by
 refine pf_body (rvs := [.tmp 4]) [(0, .d (.sl (ts.map .str))), (1, .d (.str v))] Tryz.func260 Tryz.ntmps260 Tryz.results260 (fun S0 O0 w0 m0 hm0 => ?_)
 refine Z5 ?_;refine Z189 ?_
 refine vq rfl (q_len u63) ?_
 refine Z183 ?_
 refine g_loop (α := Nat) (fun z => ⟨[(8, .d (.int .i64 (z : Nat))), (7, .d (.int .i64 ((ts.map D.str).length : Nat))), (6, .d (.sl (ts.map .str))), (1, .d (.str v)), (0, .d (.sl (ts.map .str)))], []⟩) (fun z => ts.length - z) (fun z => z ≤ ts.length ∧ ∀ i, i < z → ∀ x, ts[i]? = some x → (fun s => decide (v = s)) x = false) 0 ⟨Nat.zero_le _, by simp⟩ (fun z hz Q' hn0 he0 hr0 => ?_) (le_of)
 obtain ⟨hz1, hz2⟩ := hz
 refine Z185 ?_
 refine zgC ?_ ?_ <;> intro hb0
 ·
  have hlt : z < ts.length := by simpa using hb0
  obtain ⟨x, hx⟩ : ∃ x, ts[z]? = some x := ⟨_, gE hlt⟩
  have hmem := mG hx
  have hxd := strs_get hx
  refine Z24 ?_;refine Z2 ?_;refine Z134 ?_;refine Z144 ?_;refine Z2 ?_
  refine vq rfl (qI u63 sz9) ?_
  refine Z37 ?_;refine Z53 ?_;refine Z9 ?_
  refine zgC ?_ ?_ <;> intro hb1
  ·
   refine Z173 ?_;refine Z190 ?_
   exact Y8
  refine Z92 ?_;refine Z163 ?_
  refine hn0 _ (z + 1) ⟨by omega, idxL_step hz2 hx hb1⟩ (by omega) le_of
 have hge : z = ts.length := by
  have : ¬ (z : Int) < (ts.map D.str).length := by simpa using hb0
  rw [List.length_map] at this
  omega
 refine Z164 ?_;refine Z131 ?_
 exact Y9
theorem c282 (ts : List ByteArray) (g : FuncId) (fa fc : List D) (p : ByteArray → Bool) (hlim : ts.length ≤ 140737488355328)
 (hcb : ∀ x ∈ ts, Pf Tryz.prog g (fa ++ [.str x] ++ fc) (.d (.bool (p x)))) : Pf Tryz.prog 282 [.sl (ts.map .str), .fn (.func g) fa fc] (.d (.int .i64 (idxL p ts))) := by
 refine pf_body (rvs := [.tmp 4]) [(0, .d (.sl (ts.map .str))), (1, .d (.fn (.func g) fa fc))] Tryz.func282 Tryz.ntmps282 Tryz.results282 (fun S0 O0 w0 m0 hm0 => ?_)
 refine Z5 ?_;refine Z189 ?_
 refine vq rfl (q_len u63) ?_
 refine Z183 ?_
 refine g_loop (α := Nat) (fun z => ⟨[(8, .d (.int .i64 (z : Nat))), (7, .d (.int .i64 ((ts.map D.str).length : Nat))), (6, .d (.sl (ts.map .str))), (1, .d (.fn (.func g) fa fc)), (0, .d (.sl (ts.map .str)))], []⟩) (fun z => ts.length - z) (fun z => z ≤ ts.length ∧ ∀ i, i < z → ∀ x, ts[i]? = some x → p x = false) 0 ⟨Nat.zero_le _, by simp⟩ (fun z hz Q' hn0 he0 hr0 => ?_) (le_of)
 obtain ⟨hz1, hz2⟩ := hz
 refine Z185 ?_
 refine zgC ?_ ?_ <;> intro hb0
 ·
  have hlt : z < ts.length := by simpa using hb0
  obtain ⟨x, hx⟩ : ∃ x, ts[z]? = some x := ⟨_, gE hlt⟩
  have hmem := mG hx
  have hxd := strs_get hx
  refine Z24 ?_;refine Z2 ?_;refine Z134 ?_;refine Z144 ?_;refine Z2 ?_
  refine vq rfl (qI u63 sz9) ?_
  refine Z37 ?_
  refine gL (xs := [.tmp 15]) rfl (hcb x hmem) ?_
  refine Z9 ?_
  refine zgC ?_ ?_ <;> intro hb1
  ·
   refine Z173 ?_;refine Z190 ?_
   exact Y8
  refine Z92 ?_;refine Z163 ?_
  refine hn0 _ (z + 1) ⟨by omega, idxL_step hz2 hx hb1⟩ (by omega) le_of
 have hge : z = ts.length := by
  have : ¬ (z : Int) < (ts.map D.str).length := by simpa using hb0
  rw [List.length_map] at this
  omega
 refine Z164 ?_;refine Z131 ?_
 exact Y9
theorem c199 (ts : List ByteArray) (v : ByteArray) (hlim : ts.length ≤ 140737488355328) : Pf Tryz.prog 199 [.sl (ts.map .str), .str v] (.d (.bool (hasB ts v))) := by
 refine pf_body (rvs := [.tmp 4]) [(0, .d (.sl (ts.map .str))), (1, .d (.str v))] Tryz.func199 Tryz.ntmps199 Tryz.results199 (fun S0 O0 w0 m0 hm0 => ?_)
 refine Z157 ?_;refine Z144 ?_
 refine gL (xs := [.tmp 5, .tmp 6]) rfl (c260 ts v hlim) ?_
 refine Z83 ?_;refine Z133 ?_
 exact ⟨by rw [idxL_any]; rfl, rfl⟩
theorem c230 (ts : List ByteArray) (g : FuncId) (fa fc : List D) (p : ByteArray → Bool) (hlim : ts.length ≤ 140737488355328)
 (hcb : ∀ x ∈ ts, Pf Tryz.prog g (fa ++ [.str x] ++ fc) (.d (.bool (p x)))) : Pf Tryz.prog 230 [.sl (ts.map .str), .fn (.func g) fa fc] (.d (.bool (ts.any p))) := by
 refine pf_body (rvs := [.tmp 4]) [(0, .d (.sl (ts.map .str))), (1, .d (.fn (.func g) fa fc))] Tryz.func230 Tryz.ntmps230 Tryz.results230 (fun S0 O0 w0 m0 hm0 => ?_)
 refine Z157 ?_;refine Z144 ?_
 refine gL (xs := [.tmp 5, .tmp 6]) rfl (c282 ts g fa fc p hlim hcb) ?_
 refine Z83 ?_;refine Z133 ?_
 exact ⟨by rw [idxL_any], rfl⟩
def kindOk (c : Int) (op : Int) : Bool := if c = 101 then isExprB op else if c = 98 then decide (op = 66) else if c = 110 then decide (op = 4) else true
def kidsB (ks : List Tr) (s : ByteArray) : Bool := decide (ks.length = s.size) && ks.zipIdx.all fun x => kindOk ((s[x.2]!).toNat : Nat) x.1.op
theorem kidsB_len {ks : List Tr} {s : ByteArray} (h : kidsB ks s = true) : ks.length = s.size := by
 unfold kidsB at h
 rw [Bool.and_eq_true, decide_eq_true_eq] at h
 exact h.1
set_option maxHeartbeats 4000000 in
theorem c156 (t : Tr) (s : ByteArray) (hok : t.Ok) : Pf Tryz.prog 156 [t.d, .str s] (.d (.bool (kidsB t.kids s))) := by
 obtain ⟨op, name, num, ks⟩ := t
 rw [Tr.d_mk]
 try simp only [Tr.op_mk, Tr.nm_mk, Tr.nu_mk, Tr.kids_mk]
 cases hok with | mk h1 h2 h3 h4 h5 =>
 refine pf_body (rvs := [.tmp 4]) [(0, .d (.agg [.int .i64 op, .str name, .int .i64 num, .sl (ks.map Tr.d)])), (1, .d (.str s))] Tryz.func156 Tryz.ntmps156 Tryz.results156 (fun S0 O0 w0 m0 hm0 => ?_)
 refine Z186 ?_;refine Z165 ?_;refine Z2 ?_;refine Z64 ?_;refine Z84 ?_;refine Z9 ?_
 refine zgC ?_ ?_ <;> intro hb0
 ·
  have hne : ¬ ks.length = s.size := by
   simp at hb0
   omega
  refine Z5 ?_;refine Z151 ?_
  exact ⟨by rw [kidsB]; simp [Tr.kids, hne], rfl⟩
 have hle : ks.length = s.size := by
  simp at hb0
  omega
 refine Z95 ?_;refine Z165 ?_;refine Z183 ?_
 refine g_loop (α := Nat) (fun z => ⟨[(16, .d (.int .i64 (z : Nat))), (15, .d (.int .i64 ((ks.map Tr.d).length : Nat))), (14, .d (.sl (ks.map Tr.d))), (1, .d (.str s))], []⟩) (fun z => ks.length - z) (fun z => z ≤ ks.length ∧ ∀ i, i < z → ∀ k, ks[i]? = some k → kindOk ((s[i]!).toNat : Nat) k.op = true) 0 ⟨Nat.zero_le _, by simp⟩ (fun z hz Q' hn0 he0 hr0 => ?_) (le_of)
 obtain ⟨hz1, hz2⟩ := hz
 refine Z185 ?_
 refine zgC ?_ ?_ <;> intro hb1
 ·
  have hlt : z < ks.length := by simpa using hb1
  obtain ⟨k, hk⟩ : ∃ k, ks[z]? = some k := ⟨_, gE hlt⟩
  have hmem := mG hk
  have hxd := Tr.ds_get hk
  have hxa := hxd
  obtain ⟨kop, knm, knu, kks, hka⟩ := k.d_agg
  rw [hka] at hxa
  have hkop : k.op = kop := by obtain ⟨o, n, u, l⟩ := k; rw [Tr.d_mk] at hka; injection hka with hka; injection hka with hka; injection hka
  refine Z24 ?_;refine Z2 ?_;refine Z58 ?_;refine Z7 ?_;refine Z101 ?_;refine Z1 ?_;refine Z108 ?_;refine Z82 ?_;refine Z10 ?_;refine Z144 ?_
  refine vq rfl ((q_strindex u9 (h0 := by omega) (h1 := by omega))) ?_
  rw [Int.toNat_natCast]
  refine Z119 ?_;refine Z136 ?_
  refine zgC ?_ ?_ <;> intro hb2
  ·
   refine Z38 ?_
   refine gP [0, 1, 2, 4, 5, 6, 14, 15, 16, 23] ?_
   refine Z17 ?_;refine Z137 ?_
   refine gL (xs := [.tmp 27]) rfl (c74 kop) ?_
   refine Z54 ?_;refine Z9 ?_
   refine zgC ?_ ?_ <;> intro hb3
   ·
    refine Z5 ?_;refine Z1 ?_
    refine gN (tN (gT (bR (bR (tR ?_)))))
    refine Z171 ?_;refine Z4 ?_
    exact ⟨by rw [kidsB, zipIdx_not (p := fun i (k : Tr) => kindOk ((s[i]!).toNat : Nat) k.op) hk (by rw [hkop]; unfold kindOk; rw [if_pos (oR hb2)]; simpa using hb3), Bool.and_false], rfl⟩
   refine gK (bN (bN (tN (gR ?_))))
   refine Z163 ?_
   refine hn0 _ (z + 1) ⟨by omega, upto_step (p := fun i (k : Tr) => kindOk ((s[i]!).toNat : Nat) k.op) hz2 hk (by rw [hkop]; unfold kindOk; rw [if_pos (oR hb2)]; simpa using hb3)⟩ (by omega) le_of
  refine Z38 ?_
  refine gP [0, 1, 2, 4, 5, 6, 14, 15, 16, 23] ?_
  refine Z187 ?_
  refine zgC ?_ ?_ <;> intro hb4
  ·
   refine Z195 ?_;refine Z84 ?_;refine Z9 ?_
   refine zgC ?_ ?_ <;> intro hb5
   ·
    refine Z5 ?_;refine Z1 ?_
    refine gN (tN (gT (bR (bR (tR ?_)))))
    refine Z171 ?_;refine Z4 ?_
    exact ⟨by rw [kidsB, zipIdx_not (p := fun i (k : Tr) => kindOk ((s[i]!).toNat : Nat) k.op) hk (by rw [hkop]; unfold kindOk; rw [if_neg (of_decide_eq_false hb2), if_pos (oR hb4)]; simpa using hb5), Bool.and_false], rfl⟩
   refine gK (bN (bN (tN (gR ?_))))
   refine Z163 ?_
   refine hn0 _ (z + 1) ⟨by omega, upto_step (p := fun i (k : Tr) => kindOk ((s[i]!).toNat : Nat) k.op) hz2 hk (by rw [hkop]; unfold kindOk; rw [if_neg (of_decide_eq_false hb2), if_pos (oR hb4)]; simpa using hb5)⟩ (by omega) le_of
  refine Z159 ?_
  refine zgC ?_ ?_ <;> intro hb6
  ·
   refine Z195 ?_;refine Z84 ?_;refine Z9 ?_
   refine zgC ?_ ?_ <;> intro hb7
   ·
    refine Z5 ?_;refine Z1 ?_
    refine gN (tN (gT (bR (bR (tR ?_)))))
    refine Z171 ?_;refine Z4 ?_
    exact ⟨by rw [kidsB, zipIdx_not (p := fun i (k : Tr) => kindOk ((s[i]!).toNat : Nat) k.op) hk (by rw [hkop]; unfold kindOk; rw [if_neg (of_decide_eq_false hb2), if_neg (of_decide_eq_false hb4), if_pos (oR hb6)]; simpa using hb7), Bool.and_false], rfl⟩
   refine gK (bN (bN (tN (gR ?_))))
   refine Z163 ?_
   refine hn0 _ (z + 1) ⟨by omega, upto_step (p := fun i (k : Tr) => kindOk ((s[i]!).toNat : Nat) k.op) hz2 hk (by rw [hkop]; unfold kindOk; rw [if_neg (of_decide_eq_false hb2), if_neg (of_decide_eq_false hb4), if_pos (oR hb6)]; simpa using hb7)⟩ (by omega) le_of
  refine gK (bN (bN (tN (gR ?_))))
  refine Z163 ?_
  refine hn0 _ (z + 1) ⟨by omega, upto_step (p := fun i (k : Tr) => kindOk ((s[i]!).toNat : Nat) k.op) hz2 hk (by rw [hkop]; unfold kindOk; rw [if_neg (of_decide_eq_false hb2), if_neg (of_decide_eq_false hb4), if_neg (of_decide_eq_false hb6)])⟩ (by omega) le_of
 have hge : z = ks.length := by
  have : ¬ (z : Int) < (ks.map Tr.d).length := by simpa using hb1
  rw [List.length_map] at this
  omega
 refine Z164 ?_;refine Z133 ?_
 exact Y4
end
section
theorem c160 (op : Int) : Pf Tryz.prog 160 [.int .i64 op] (.d (.bool (op == 66))) := by
 refine pf_body (rvs := [.tmp 2]) [(0, .d (.int .i64 op))] Tryz.func160 Tryz.ntmps160 Tryz.results160 (fun S0 O0 w0 m0 hm0 => ?_)
 refine Z194 ?_;refine Z15 ?_;refine Z133 ?_
 exact ⟨rfl, rfl⟩
theorem c232 (op : Int) : Pf Tryz.prog 232 [.int .i64 op] (.d (.bool (op == 67))) := by
 refine pf_body (rvs := [.tmp 2]) [(0, .d (.int .i64 op))] Tryz.func232 Tryz.ntmps232 Tryz.results232 (fun S0 O0 w0 m0 hm0 => ?_)
 refine Z194 ?_;refine Z15 ?_;refine Z133 ?_
 exact ⟨rfl, rfl⟩
theorem c163 (op : Int) : Pf Tryz.prog 163 [.int .i64 op] (.d (.bool (isExprB op || op == 3))) := by
 refine pf_body (rvs := [.tmp 2]) [(0, .d (.int .i64 op))] Tryz.func163 Tryz.ntmps163 Tryz.results163 (fun S0 O0 w0 m0 hm0 => ?_)
 refine Z194 ?_
 refine gL (xs := [.tmp 3]) rfl (c74 op) ?_
 refine Z170 ?_
 refine sg rfl (fun hg => sP 6 rfl hg q_eql) ?_
 refine Z22 ?_;refine Z133 ?_
 exact ⟨rfl, rfl⟩
theorem c286 (op : Int) : Pf Tryz.prog 286 [.int .i64 op] (.d (.bool (isExprB op || op == 30))) := by
 refine pf_body (rvs := [.tmp 2]) [(0, .d (.int .i64 op))] Tryz.func286 Tryz.ntmps286 Tryz.results286 (fun S0 O0 w0 m0 hm0 => ?_)
 refine Z194 ?_
 refine gL (xs := [.tmp 3]) rfl (c74 op) ?_
 refine Z170 ?_
 refine sg rfl (fun hg => sP 6 rfl hg q_eql) ?_
 refine Z22 ?_;refine Z133 ?_
 exact ⟨rfl, rfl⟩
theorem c233 (t : Tr) (g : FuncId) (p : Int → Bool) (hcb : ∀ op, Pf Tryz.prog g [.int .i64 op] (.d (.bool (p op)))) : Pf Tryz.prog 233 [t.d, .ptr (.fn (.func g) [] [])] (.d (.bool (!p t.op))) := by
 obtain ⟨op, name, num, ks⟩ := t
 rw [Tr.d_mk]
 try simp only [Tr.op_mk, Tr.nm_mk, Tr.nu_mk, Tr.kids_mk]
 refine pf_body (rvs := [.tmp 3]) [(0, .d (.agg [.int .i64 op, .str name, .int .i64 num, .sl (ks.map Tr.d)])), (1, .d (.ptr (.fn (.func g) [] [])))] Tryz.func233 Tryz.ntmps233 Tryz.results233 (fun S0 O0 w0 m0 hm0 => ?_)
 refine Z174 ?_
 refine vq rfl (qL u109) ?_
 refine Z137 ?_
 refine gL (xs := [.tmp 6]) rfl (hcb op) ?_
 refine Z54 ?_;refine Z133 ?_
 exact ⟨rfl, rfl⟩
def everyB (p : Int → Bool) (ks : List Tr) : Bool := !(ks.any fun k => !p k.op)
theorem Tr.kids_len {t : Tr} (h : t.Ok) : t.kids.length ≤ 140737488355328 := by cases h; assumption
theorem Tr.kids_ok {t : Tr} (h : t.Ok) : ∀ k ∈ t.kids, k.Ok := by cases h; assumption
theorem c159 (t : Tr) (g : FuncId) (p : Int → Bool) (hok : t.Ok) (hcb : ∀ op, Pf Tryz.prog g [.int .i64 op] (.d (.bool (p op)))) : Pf Tryz.prog 159 [t.d, .fn (.func g) [] []] (.d (.bool (everyB p t.kids))) := by
 obtain ⟨op, name, num, ks⟩ := t
 rw [Tr.d_mk]
 try simp only [Tr.op_mk, Tr.nm_mk, Tr.nu_mk, Tr.kids_mk]
 refine pf_body (rvs := [.tmp 4]) [(0, .d (.agg [.int .i64 op, .str name, .int .i64 num, .sl (ks.map Tr.d)])), (1, .d (.fn (.func g) [] []))] Tryz.func159 Tryz.ntmps159 Tryz.results159 (fun S0 O0 w0 m0 hm0 => ?_)
 refine Z140 ?_;refine Z31 ?_
 refine gF 0 [] (.fn (.func g) [] []) rfl ?_
 refine Z134 ?_;refine Z146 ?_
 refine vq rfl (q_makeFunc (xs := []) (ys := [.tmp 3])) ?_
 refine gL (xs := [.tmp 6, .tmp 7]) rfl (c52 ks 233 [] [.ptr (.fn (.func g) [] [])] (fun k => !p k.op) (Tr.kids_len hok) (fun x hx => c233 x g p hcb)) ?_
 refine Z54 ?_;refine Z133 ?_
 exact ⟨rfl, rfl⟩
theorem c152 (t : Tr) : Pf Tryz.prog 152 [t.d] (.d (.bool true)) := by
 obtain ⟨op, name, num, ks⟩ := t
 rw [Tr.d_mk]
 try simp only [Tr.op_mk, Tr.nm_mk, Tr.nu_mk, Tr.kids_mk]
 refine pf_body (rvs := [.tmp 2]) [(0, .d (.agg [.int .i64 op, .str name, .int .i64 num, .sl (ks.map Tr.d)]))] Tryz.func152 Tryz.ntmps152 Tryz.results152 (fun S0 O0 w0 m0 hm0 => ?_)
 refine Z174 ?_;refine Z133 ?_
 exact ⟨rfl, rfl⟩
def rule154 (t : Tr) : Bool := (t.nu == 0 || t.nu == 1) && (t.kids.length : Int) == 0
def opK (i : Nat) (ks : List Tr) : Int := match ks[i]? with | some k => k.op | none => 0
def ee : ByteArray := ⟨#[101, 101]⟩
def rule155 (t : Tr) : Bool := kidsB t.kids ee && (opK 0 t.kids == 4 || opK 0 t.kids == 12)
def rule158 (t : Tr) : Bool := decide ((t.kids.length : Int) > 0) && everyB (fun op => op == 66) t.kids
def rule161 (t : Tr) : Bool := (t.kids.length : Int) == 1 && (opK 0 t.kids == 13 || opK 0 t.kids == 15)
theorem c154 (t : Tr) : Pf Tryz.prog 154 [t.d] (.d (.bool (rule154 t))) := by
 obtain ⟨op, name, num, ks⟩ := t
 rw [Tr.d_mk]
 try simp only [Tr.op_mk, Tr.nm_mk, Tr.nu_mk, Tr.kids_mk]
 refine pf_body (rvs := [.tmp 2]) [(0, .d (.agg [.int .i64 op, .str name, .int .i64 num, .sl (ks.map Tr.d)]))] Tryz.func154 Tryz.ntmps154 Tryz.results154 (fun S0 O0 w0 m0 hm0 => ?_)
 refine Z174 ?_;refine Z137 ?_;refine Z15 ?_;refine Z147 ?_;refine Z112 ?_
 refine sg rfl (fun hg => sP 8 rfl hg q_eql) ?_
 refine Z22 ?_;refine Z166 ?_
 refine sg rfl (fun hg => sP 12 rfl hg (qL u22)) ?_
 refine sg rfl (fun hg => sP 13 rfl hg (q_len u22)) ?_
 refine sg rfl (fun hg => sP 14 rfl hg q_eql) ?_
 refine Z172 ?_
 exact ⟨by simp [rule154, Tr.nu, Tr.kids], rfl⟩
theorem c155 (t : Tr) (hok : t.Ok) : Pf Tryz.prog 155 [t.d] (.d (.bool (rule155 t))) := by
 obtain ⟨op, name, num, ks⟩ := t
 rw [Tr.d_mk]
 try simp only [Tr.op_mk, Tr.nm_mk, Tr.nu_mk, Tr.kids_mk]
 refine pf_body (rvs := [.tmp 2]) [(0, .d (.agg [.int .i64 op, .str name, .int .i64 num, .sl (ks.map Tr.d)]))] Tryz.func155 Tryz.ntmps155 Tryz.results155 (fun S0 O0 w0 m0 hm0 => ?_)
 refine Z174 ?_;refine Z7 ?_
 refine gL (xs := [.tmp 3, .const (.string ⟨#[101, 101]⟩)]) rfl ((Tr.d_mk op name num ks ▸ c156 (.mk op name num ks) ee hok)) ?_
 refine Z2 ?_
 refine g_split 5 true (fun hsp => ?_) (fun hsp => ?_)
 ·
  obtain ⟨k, r, hks⟩ : ∃ k r, ks = k :: r := by
   cases hks : ks with
   | nil => exfalso; have := kidsB_len (by simpa using hsp); rw [show (Tr.mk op name num ks).kids = ks from rfl, hks] at this; exact absurd this (by decide)
   | cons k r => exact ⟨k, r, rfl⟩
  subst hks
  obtain ⟨kop, knm, knu, kks, hka⟩ := k.d_agg
  have hkop : k.op = kop := by obtain ⟨o, n, u, l⟩ := k; rw [Tr.d_mk] at hka; injection hka with hka; injection hka with hka; injection hka
  have hxa : ((k :: r).map Tr.d)[0]? = some (.agg [.int .i64 kop, .str knm, .int .i64 knu, .sl (kks.map Tr.d)]) := by rw [← hka]; rfl
  refine Z86 ?_;refine Z97 ?_;refine Z75 ?_;refine Z71 ?_;refine Z79 ?_;refine Z123 ?_;refine Z72 ?_;refine Z19 ?_
  refine sg rfl (fun hg => sP 13 rfl hg (qL u22)) ?_
  refine sg rfl (fun hg => sP 14 rfl hg (qI u22 sz27)) ?_
  refine sg rfl (fun hg => sP 15 rfl hg (qF u27 rfl sz3)) ?_
  refine sg rfl (fun hg => sP 16 rfl hg (qL u3)) ?_
  refine sg rfl (fun hg => sP 17 rfl hg q_eql) ?_
  refine Z126 ?_;refine Z172 ?_
  exact ⟨by simp [rule155, Tr.kids, opK, hkop], rfl⟩
 skip
 refine Z154 ?_;refine Z154 ?_;refine Z154 ?_;refine Z135 ?_;refine Z172 ?_
 exact ⟨by simp [rule155, Tr.kids] at hsp ⊢; simp [hsp], rfl⟩
theorem c158 (t : Tr) (hok : t.Ok) : Pf Tryz.prog 158 [t.d] (.d (.bool (rule158 t))) := by
 obtain ⟨op, name, num, ks⟩ := t
 rw [Tr.d_mk]
 try simp only [Tr.op_mk, Tr.nm_mk, Tr.nu_mk, Tr.kids_mk]
 refine pf_body (rvs := [.tmp 2]) [(0, .d (.agg [.int .i64 op, .str name, .int .i64 num, .sl (ks.map Tr.d)]))] Tryz.func158 Tryz.ntmps158 Tryz.results158 (fun S0 O0 w0 m0 hm0 => ?_)
 refine Z174 ?_;refine Z165 ?_;refine Z88 ?_;refine Z167 ?_
 refine g_callg (xs := [.tmp 8, .func 160]) rfl (fun hg => (Tr.d_mk op name num ks ▸ c159 (.mk op name num ks) 160 (fun op => op == 66) hok c160)) ?_
 refine Z172 ?_
 exact ⟨by simp [rule158, Tr.kids], rfl⟩
theorem c161 (t : Tr) (hok : t.Ok) : Pf Tryz.prog 161 [t.d] (.d (.bool (rule161 t))) := by
 obtain ⟨op, name, num, ks⟩ := t
 rw [Tr.d_mk]
 try simp only [Tr.op_mk, Tr.nm_mk, Tr.nu_mk, Tr.kids_mk]
 refine pf_body (rvs := [.tmp 2]) [(0, .d (.agg [.int .i64 op, .str name, .int .i64 num, .sl (ks.map Tr.d)]))] Tryz.func161 Tryz.ntmps161 Tryz.results161 (fun S0 O0 w0 m0 hm0 => ?_)
 refine Z174 ?_;refine Z165 ?_;refine Z15 ?_;refine Z2 ?_
 refine g_split 7 true (fun hsp => ?_) (fun hsp => ?_)
 ·
  obtain ⟨k, r, hks⟩ : ∃ k r, ks = k :: r := by
   cases hks : ks with
   | nil => exfalso; rw [hks] at hsp; exact absurd hsp (by decide)
   | cons k r => exact ⟨k, r, rfl⟩
  subst hks
  obtain ⟨kop, knm, knu, kks, hka⟩ := k.d_agg
  have hkop : k.op = kop := by obtain ⟨o, n, u, l⟩ := k; rw [Tr.d_mk] at hka; injection hka with hka; injection hka with hka; injection hka
  have hxa : ((k :: r).map Tr.d)[0]? = some (.agg [.int .i64 kop, .str knm, .int .i64 knu, .sl (kks.map Tr.d)]) := by rw [← hka]; rfl
  refine Z86 ?_;refine Z97 ?_;refine Z75 ?_;refine Z71 ?_;refine Z79 ?_;refine Z123 ?_;refine Z72 ?_;refine Z19 ?_
  refine sg rfl (fun hg => sP 15 rfl hg (qL u22)) ?_
  refine sg rfl (fun hg => sP 16 rfl hg (qI u22 sz27)) ?_
  refine sg rfl (fun hg => sP 17 rfl hg (qF u27 rfl sz3)) ?_
  refine sg rfl (fun hg => sP 18 rfl hg (qL u3)) ?_
  refine sg rfl (fun hg => sP 19 rfl hg q_eql) ?_
  refine Z126 ?_;refine Z172 ?_
  exact ⟨by simp [rule161, Tr.kids, opK, hkop], rfl⟩
 skip
 refine Z154 ?_;refine Z154 ?_;refine Z154 ?_;refine Z135 ?_;refine Z172 ?_
 exact ⟨by simp [rule161, Tr.kids] at hsp ⊢; simp [hsp], rfl⟩
theorem c162 (t : Tr) (hok : t.Ok) : Pf Tryz.prog 162 [t.d] (.d (.bool (everyB (fun op => isExprB op || op == 3) t.kids))) := by
 obtain ⟨op, name, num, ks⟩ := t
 rw [Tr.d_mk]
 try simp only [Tr.op_mk, Tr.nm_mk, Tr.nu_mk, Tr.kids_mk]
 refine pf_body (rvs := [.tmp 2]) [(0, .d (.agg [.int .i64 op, .str name, .int .i64 num, .sl (ks.map Tr.d)]))] Tryz.func162 Tryz.ntmps162 Tryz.results162 (fun S0 O0 w0 m0 hm0 => ?_)
 refine Z174 ?_;refine Z7 ?_
 refine gL (xs := [.tmp 3, .func 163]) rfl ((Tr.d_mk op name num ks ▸ c159 (.mk op name num ks) 163 (fun op => isExprB op || op == 3) hok c163)) ?_
 refine Z133 ?_
 exact ⟨rfl, rfl⟩
theorem c164 (t : Tr) (hok : t.Ok) : Pf Tryz.prog 164 [t.d] (.d (.bool (everyB isStmtB t.kids))) := by
 obtain ⟨op, name, num, ks⟩ := t
 rw [Tr.d_mk]
 try simp only [Tr.op_mk, Tr.nm_mk, Tr.nu_mk, Tr.kids_mk]
 refine pf_body (rvs := [.tmp 2]) [(0, .d (.agg [.int .i64 op, .str name, .int .i64 num, .sl (ks.map Tr.d)]))] Tryz.func164 Tryz.ntmps164 Tryz.results164 (fun S0 O0 w0 m0 hm0 => ?_)
 refine Z174 ?_;refine Z7 ?_
 refine gL (xs := [.tmp 3, .func 95]) rfl ((Tr.d_mk op name num ks ▸ c159 (.mk op name num ks) 95 isStmtB hok c95)) ?_
 refine Z133 ?_
 exact ⟨rfl, rfl⟩
theorem c153 (ts : List ByteArray) : Pf Tryz.prog 153 [.sl (ts.map .str)] (.d (.fn (.func 229) [] [.ptr (.sl (ts.map .str))])) := by
 refine pf_body (rvs := [.tmp 2]) [(0, .d (.sl (ts.map .str)))] Tryz.func153 Tryz.ntmps153 Tryz.results153 (fun S0 O0 w0 m0 hm0 => ?_)
 refine Z139 ?_
 refine gF 0 [] (.sl (ts.map .str)) rfl ?_
 refine Z134 ?_
 refine vq rfl (q_makeFunc (xs := []) (ys := [.tmp 1])) ?_
 refine Z131 ?_
 refine find1 (by simp) ?_
 exact ⟨rfl, rfl⟩
theorem c231 (t : Tr) (s : ByteArray) (hok : t.Ok) : Pf Tryz.prog 231 [.str s, .ptr t.d] (.d (.bool (kidsB t.kids s))) := by
 obtain ⟨op, name, num, ks⟩ := t
 rw [Tr.d_mk]
 try simp only [Tr.op_mk, Tr.nm_mk, Tr.nu_mk, Tr.kids_mk]
 refine pf_body (rvs := [.tmp 3]) [(0, .d (.str s)), (1, .d (.ptr (.agg [.int .i64 op, .str name, .int .i64 num, .sl (ks.map Tr.d)])))] Tryz.func231 Tryz.ntmps231 Tryz.results231 (fun S0 O0 w0 m0 hm0 => ?_)
 refine Z157 ?_;refine Z7 ?_;refine Z2 ?_
 refine gL (xs := [.tmp 4, .tmp 5]) rfl ((Tr.d_mk op name num ks ▸ c156 (.mk op name num ks) s hok)) ?_
 refine Z133 ?_
 exact ⟨rfl, rfl⟩
def formsB (ts : List ByteArray) (t : Tr) : Bool := ts.any fun s => kidsB t.kids s
theorem c229 (t : Tr) (ts : List ByteArray) (hok : t.Ok) (hlim : ts.length ≤ 140737488355328) : Pf Tryz.prog 229 [t.d, .ptr (.sl (ts.map .str))] (.d (.bool (formsB ts t))) := by
 obtain ⟨op, name, num, ks⟩ := t
 rw [Tr.d_mk]
 try simp only [Tr.op_mk, Tr.nm_mk, Tr.nu_mk, Tr.kids_mk]
 refine pf_body (rvs := [.tmp 3]) [(0, .d (.agg [.int .i64 op, .str name, .int .i64 num, .sl (ks.map Tr.d)])), (1, .d (.ptr (.sl (ts.map .str))))] Tryz.func229 Tryz.ntmps229 Tryz.results229 (fun S0 O0 w0 m0 hm0 => ?_)
 refine Z174 ?_
 refine vq rfl (qL u63) ?_
 refine vq rfl (q_makeFunc (xs := []) (ys := [.tmp 2])) ?_
 refine gL (xs := [.tmp 4, .tmp 5]) rfl (c230 ts 231 [] [.ptr (.agg [.int .i64 op, .str name, .int .i64 num, .sl (ks.map Tr.d)])] (fun s => kidsB ks s) hlim (fun x hx => Tr.d_mk op name num ks ▸ c231 (.mk op name num ks) x hok)) ?_
 refine Z133 ?_
 exact ⟨rfl, rfl⟩
end
section
def nn : ByteArray := ⟨#[110, 110]⟩
def eb : ByteArray := ⟨#[101, 98]⟩
def rule157 : Tr → Bool
 | .mk op _ num ks =>
  if (num = 1 ∨ num = 2) ∧ num + 2 ≤ (ks.length : Int) then kidsB (ks.take (num + 2).toNat) (nn.extract 0 num.toNat ++ eb) && (((ks.drop (num + 2).toNat).length : Int) == 0 || (op == 55 && everyB (fun op => op == 67) (ks.drop (num + 2).toNat)))
  else false
theorem nn_size (n : Nat) : (nn.extract 0 n).size ≤ 2 := by rw [ByteArray.size_extract]; have : nn.size = 2 := rfl; omega
theorem Tr.Ok.take {op nu : Int} {nm : ByteArray} {ks : List Tr} (h : (Tr.mk op nm nu ks).Ok) (n : Nat) : (Tr.mk op nm nu (ks.take n)).Ok := by
 cases h with | mk h1 h2 h3 h4 h5 => exact .mk h1 h2 h3 (Nat.le_trans (by rw [List.length_take]; omega) h4) (fun k hk => h5 k (List.mem_of_mem_take hk))
theorem Tr.Ok.drop {op nu : Int} {nm : ByteArray} {ks : List Tr} (h : (Tr.mk op nm nu ks).Ok) (n : Nat) : (Tr.mk op nm nu (ks.drop n)).Ok := by
 cases h with | mk h1 h2 h3 h4 h5 => exact .mk h1 h2 h3 (Nat.le_trans (by rw [List.length_drop]; omega) h4) (fun k hk => h5 k (List.mem_of_mem_drop hk))
set_option maxHeartbeats 4000000 in
theorem c157 (t : Tr) (hok : t.Ok) : Pf Tryz.prog 157 [t.d] (.d (.bool (rule157 t))) := by
 obtain ⟨op, name, num, ks⟩ := t
 rw [Tr.d_mk]
 try simp only [Tr.op_mk, Tr.nm_mk, Tr.nu_mk, Tr.kids_mk]
 refine pf_body (rvs := [.tmp 2]) [(0, .d (.agg [.int .i64 op, .str name, .int .i64 num, .sl (ks.map Tr.d)]))] Tryz.func157 Tryz.ntmps157 Tryz.results157 (fun S0 O0 w0 m0 hm0 => ?_)
 refine Z186 ?_;refine Z137 ?_;refine Z84 ?_;refine Z147 ?_;refine Z113 ?_;refine Z114 ?_;refine Z149 ?_;refine Z19 ?_
 refine sg rfl (fun hg => sP 14 rfl hg (qL u22)) ?_
 refine sg rfl (fun hg => sP 15 rfl hg (q_len u22)) ?_
 refine Z14 ?_
 refine sg rfl (fun hg => sP 17 rfl hg (qL u3)) ?_
 refine sg rfl (fun hg => sP 18 rfl hg (q_add (hw := rfl))) ?_
 refine sg rfl (fun hg => sP 19 rfl hg (sP 16 rfl hg q_lss)) ?_
 refine Z152 ?_
 refine zgC ?_ ?_ <;> intro hb0
 ·
  have hn : ¬ ((num = 1 ∨ num = 2) ∧ num + 2 ≤ (ks.length : Int)) := by
   rintro ⟨h7, h8⟩
   simp only [Bool.or_eq_true, Bool.and_eq_true, bne_iff_ne, bne_eq_false_iff_eq, decide_eq_true_eq, decide_eq_false_iff_not, List.length_map] at hb0
   rcases hb0 with hb0 | hb0
   · omega
   · rw [wrap_i64 (by omega) (by omega)] at hb0
     omega
  refine Z38 ?_;refine Z175 ?_;refine Z151 ?_
  exact ⟨by rw [rule157, if_neg hn], rfl⟩
 have hn : (num = 1 ∨ num = 2) ∧ num + 2 ≤ (ks.length : Int) := by
  simp only [Bool.or_eq_false_iff, Bool.and_eq_false_iff, bne_iff_ne, bne_eq_false_iff_eq, decide_eq_true_eq, decide_eq_false_iff_not, List.length_map] at hb0
  obtain ⟨h7, h8⟩ := hb0
  have h9 : num = 1 ∨ num = 2 := by omega
  rw [wrap_i64 (by omega) (by omega)] at h8
  exact ⟨h9, by omega⟩
 have hn1 : 1 ≤ num ∧ num ≤ 2 := by omega
 refine Z94 ?_;refine Z175 ?_;refine Z7 ?_;refine Z101 ?_;refine Z108 ?_;refine Z10 ?_;refine Z146 ?_;refine Z137 ?_;refine Z25 ?_
 refine vq rfl ((q_sliceh u22 sz27 (Tr.ds_cells ks))) ?_
 rw [← List.map_take]
 refine sv rfl (y_fieldAt 3 u27 rfl sz22) ?_
 refine sa rfl (dS sz22) ?_
 refine gF 0 [] (.agg [.int .i64 op, .str name, .int .i64 num, .sl ((ks.take (num + 2).toNat).map Tr.d)]) rfl ?_
 refine gN (tN (zgS (zgS ?_)))
 refine g_cg0 [30, 31, 32, 33, 34, 35, 36] ?_
 refine Z125 ?_
 refine cS 1 (fun b rest hc1 hc2 hc3 => vq rfl (qG (by exact sz27) u27 rfl) (gN ⟨rfl, rfl⟩)) ?_
 refine Z125 ?_
 refine cS 2 (fun b rest hc1 hc2 hc3 => vq rfl (qF u27 rfl sz3) (gN ⟨rfl, rfl⟩)) ?_
 refine cP [1] ?_
 refine cS 3 (fun b rest hc1 hc2 hc3 => vq rfl (qL u3) (gN ⟨rfl, rfl⟩)) ?_
 refine cP [2] ?_
 refine cS 4 (fun b rest hc1 hc2 hc3 => vq rfl ((q_strh u9 (h1 := by show num ≤ 2; omega))) (gN ⟨rfl, rfl⟩)) ?_
 refine cP [3] ?_
 refine cS 5 (fun b rest hc1 hc2 hc3 => vq rfl (q_stradd (hl := by have := nn_size num.toNat; show (nn.extract 0 num.toNat).size + 2 ≤ lim; simp only [lim]; omega)) (gN ⟨rfl, rfl⟩)) ?_
 refine cP [0, 4] ?_
 refine cS 6 (fun b rest hc1 hc2 hc3 => gL (xs := [.tmp 30, .tmp 34]) rfl ((Tr.d_mk op name num (ks.take (num + 2).toNat) ▸ c156 (.mk op name num (ks.take (num + 2).toNat)) (nn.extract 0 num.toNat ++ eb) (hok.take _))) (gN ⟨rfl, rfl⟩)) ?_
 refine cP [5] ?_
 refine cS 7 (fun b rest hc1 hc2 hc3 => vq rfl q_not (gN ⟨rfl, rfl⟩)) ?_
 refine cg_done ?_
 refine tN ?_
 refine zgC ?_ ?_ <;> intro hb1
 ·
  refine Z38 ?_;refine Z175 ?_;refine Z151 ?_
  exact Y14
 refine Z94 ?_;refine Z175 ?_;refine Z7 ?_;refine Z101 ?_;refine Z108 ?_;refine Z10 ?_;refine Z146 ?_;refine Z137 ?_;refine Z25 ?_
 refine vq rfl ((q_slicel u22 sz27 (Tr.ds_cells ks))) ?_
 rw [← List.map_drop]
 refine sv rfl (y_fieldAt 3 u27 rfl sz22) ?_
 refine sa rfl (dS sz22) ?_
 refine gF 0 [] (.agg [.int .i64 op, .str name, .int .i64 num, .sl ((ks.drop (num + 2).toNat).map Tr.d)]) rfl ?_
 refine Z10 ?_;refine Z165 ?_;refine Z15 ?_;refine Z147 ?_
 refine sg rfl (fun hg => sP 50 rfl hg (qL u3)) ?_
 refine sg rfl (fun hg => sP 51 rfl hg q_eql) ?_
 refine sg rfl (fun hg => sP 52 rfl hg qM) ?_
 refine Z13 ?_
 refine g_callg (xs := [.tmp 54, .func 232]) rfl (fun hg => (Tr.d_mk op name num (ks.drop (num + 2).toNat) ▸ c159 (.mk op name num (ks.drop (num + 2).toNat)) 232 (fun op => op == 67) (hok.drop _) c232)) ?_
 refine sg rfl (fun hg => sP 53 rfl hg q_and) ?_
 refine Z22 ?_;refine Z133 ?_
 exact Y14
def voidB : ByteArray := ⟨#[118, 111, 105, 100]⟩
def varTail (nu : Int) (l : List Tr) : Bool := if (andI nu 2 != 0) = true then (match l with | [] => false | k :: r => isExprB k.op && (r.length : Int) == 0) else (l.length : Int) == 0
def varType (k : Tr) : Bool := !(k.op != 31 && (k.op != 30 || decide (k.nm = voidB)))
def varTy (num : Int) : List Tr → Bool
 | [] => false
 | k :: r => varType k && varTail num r
def varB : Tr → Bool
 | .mk _ name num ks =>
  if (((!nameB name || decide (num < 0)) || decide (num > 15)) || andI num 3 == 0) = true then false
  else if (andI num 1 != 0) = true then varTy num ks else varTail num ks
set_option maxHeartbeats 4000000 in
theorem c285 (t : Tr) (hok : t.Ok) : Pf Tryz.prog 285 [t.d] (.d (.bool (varB t))) := by
 obtain ⟨op, name, num, ks⟩ := t
 rw [Tr.d_mk]
 try simp only [Tr.op_mk, Tr.nm_mk, Tr.nu_mk, Tr.kids_mk]
 cases hok with | mk h1 h2 h3 h4 h5 =>
 refine pf_body (rvs := [.tmp 2]) [(0, .d (.agg [.int .i64 op, .str name, .int .i64 num, .sl (ks.map Tr.d)]))] Tryz.func285 Tryz.ntmps285 Tryz.results285 (fun S0 O0 w0 m0 hm0 => ?_)
 refine Z186 ?_;refine Z150 ?_
 refine gL (xs := [.tmp 5]) rfl (c167 name) ?_
 refine Z54 ?_;refine Z147 ?_;refine Z113 ?_
 refine sg rfl (fun hg => sP 10 rfl hg q_lss) ?_
 refine Z22 ?_;refine Z147 ?_
 refine sg rfl (fun hg => sP 14 rfl hg (qL u3)) ?_
 refine sg rfl (fun hg => sP 15 rfl hg q_gtr) ?_
 refine Z22 ?_;refine Z147 ?_;refine Z110 ?_
 refine sg rfl (fun hg => sP 20 rfl hg (q_bits (show _ = pure (Value.int .i64 (andI _ _)) from rfl))) ?_
 refine sg rfl (fun hg => sP 21 rfl hg q_eql) ?_
 refine Z152 ?_
 refine zgC ?_ ?_ <;> intro hb0
 ·
  refine Z176 ?_;refine Z151 ?_
  exact ⟨by rw [varB, if_pos hb0], rfl⟩
 refine Z94 ?_;refine Z155 ?_;refine Z146 ?_;refine Z132 ?_
 refine G_seq_cut (α := List Tr) (fun l => ⟨[(1, .d (.ptr (.agg [.int .i64 op, .str name, .int .i64 num, .sl (ks.map Tr.d)]))), (3, .d (.sl (l.map Tr.d)))], []⟩) (fun l => varB (.mk op name num ks) = varTail num l ∧ l.length ≤ 140737488355328) (fun Q' hn he hr => ?_) (fun l hl => ?_)
 ·
  refine Z195 ?_
  refine vq rfl (q_bits (show _ = pure (Value.int .i64 (andI _ _)) from rfl)) ?_
  refine Z84 ?_;refine Z9 ?_
  refine zgC ?_ ?_ <;> intro hb1
  ·
   refine Z196 ?_;refine Z43 ?_;refine Z15 ?_;refine Z2 ?_
   refine g_split 33 false (fun hsp => ?_) (fun hsp => ?_)
   ·
    obtain ⟨k, r, hks⟩ : ∃ k r, ks = k :: r := by
     cases hks : ks with
     | nil => exfalso; rw [hks] at hsp; exact absurd hsp (by decide)
     | cons k r => exact ⟨k, r, rfl⟩
    obtain ⟨kop, knm, knu, kks, hka⟩ := k.d_agg
    have hkop : k.op = kop ∧ k.nm = knm := by obtain ⟨o, n, u, l⟩ := k; rw [Tr.d_mk] at hka; injection hka with hka; injection hka with hka1 hka; injection hka with hka2 hka; injection hka1 with _ hka1; injection hka2 with hka2; exact ⟨hka1, hka2⟩
    have hxa : (ks.map Tr.d)[0]? = some (.agg [.int .i64 kop, .str knm, .int .i64 knu, .sl (kks.map Tr.d)]) := by rw [hks, ← hka]; rfl
    have hlen : ks.length = r.length + 1 := by rw [hks]; rfl
    have hdr : List.drop (Int.toNat 1) (List.map Tr.d ks) = List.map Tr.d r := by rw [hks]; rfl
    have hne : ((ks.map Tr.d).length : Int) ≠ 0 := by rw [List.length_map]; omega
    refine Z72 ?_;refine Z75 ?_;refine Z71 ?_;refine Z79 ?_
    refine sgo rfl hsp y_neq ?_
    refine Z72 ?_;refine Z18 ?_
    refine sg rfl (fun hg => sP 40 rfl hg (qI u22 sz27)) ?_
    refine sg rfl (fun hg => sP 41 rfl hg (qF u27 rfl sz3)) ?_
    refine sg rfl (fun hg => sP 42 rfl hg (qL u3)) ?_
    refine sg rfl (fun hg => sP 43 rfl hg q_neq) ?_
    refine sg rfl (fun hg => sP 44 rfl hg qM) ?_
    refine Z18 ?_
    refine sg rfl (fun hg => sP 46 rfl hg (qI u22 sz27)) ?_
    refine sg rfl (fun hg => sP 47 rfl hg (qF u27 rfl sz9)) ?_
    refine sg rfl (fun hg => sP 48 rfl hg (qL u9)) ?_
    refine sg rfl (fun hg => sP 49 rfl hg q_streq) ?_
    refine sg rfl (fun hg => sP 45 rfl hg q_or) ?_
    refine sgo rfl hsp y_and ?_
    refine Z152 ?_
    refine zgC ?_ ?_ <;> intro hb2
    ·
     have hbad : varTy num ks = false := by
      obtain ⟨g1, g2⟩ := hkop
      rw [beq_eq_false_iff_ne.2 hne, Bool.false_or] at hb2
      rw [hks, varTy, varType, g1, g2]
      rw [show (kop != 31 && (kop != 30 || decide (knm = voidB))) = true from hb2]; rfl
     refine Z176 ?_;refine Z141 ?_;refine Z128 ?_;refine Z4 ?_
     exact ⟨by rw [varB, if_neg (by rw [hb0]; decide), if_pos hb1, hbad], rfl⟩
    have hgood : varTy num ks = varTail num r := by
     obtain ⟨g1, g2⟩ := hkop
     rw [beq_eq_false_iff_ne.2 hne, Bool.false_or] at hb2
     rw [hks, varTy, varType, g1, g2]
     rw [show (kop != 31 && (kop != 30 || decide (knm = voidB))) = false from hb2]; rfl
    refine Z77 ?_;refine Z155 ?_;refine Z2 ?_
    refine vq rfl ((q_slicel u22 sz27 (Tr.ds_cells ks))) ?_
    rw [hdr]
    refine Z1 ?_;refine Z59 ?_
    refine hn _ r ⟨by rw [varB, if_neg (by rw [hb0]; decide), if_pos hb1, hgood], by omega⟩ le_of
   skip
   refine Z154 ?_;refine Z154 ?_;refine Z154 ?_;refine Z154 ?_;refine Z135 ?_;refine Z0 ?_;refine Z152 ?_
   refine zgC ?_ ?_ <;> intro hb3
   ·
    have hnil : varTy num ks = false := by
     cases ks with
     | nil => rfl
     | cons k r => exfalso; simp at hsp; omega
    refine Z176 ?_;refine Z141 ?_;refine Z128 ?_;refine Z4 ?_
    exact ⟨by rw [varB, if_neg (by rw [hb0]; decide), if_pos hb1, hnil], rfl⟩
   exfalso
   have h0 : (((ks.map Tr.d).length : Int) == 0) = true := by simpa using hsp
   exact absurd hb3 (by rw [h0, Bool.true_or]; decide)
  refine gK ?_
  refine hn _ ks ⟨by rw [varB, if_neg (by rw [hb0]; decide), if_neg (by rw [hb1]; decide)], h4⟩ le_of
 obtain ⟨hl1, hl2⟩ := hl
 refine Z39 ?_;refine Z137 ?_
 refine vq rfl (q_bits (show _ = pure (Value.int .i64 (andI _ _)) from rfl)) ?_
 refine Z84 ?_;refine Z9 ?_
 refine zgC ?_ ?_ <;> intro hb4
 ·
  refine Z196 ?_;refine Z43 ?_;refine Z15 ?_;refine Z2 ?_
  refine g_split 63 false (fun hsp => ?_) (fun hsp => ?_)
  ·
   obtain ⟨k, r, hks⟩ : ∃ k r, l = k :: r := by
    cases hks : l with
    | nil => exfalso; rw [hks] at hsp; exact absurd hsp (by decide)
    | cons k r => exact ⟨k, r, rfl⟩
   obtain ⟨kop, knm, knu, kks, hka⟩ := k.d_agg
   have hkop : k.op = kop ∧ k.nm = knm := by obtain ⟨o, n, u, l⟩ := k; rw [Tr.d_mk] at hka; injection hka with hka; injection hka with hka1 hka; injection hka with hka2 hka; injection hka1 with _ hka1; injection hka2 with hka2; exact ⟨hka1, hka2⟩
   have hxa : (l.map Tr.d)[0]? = some (.agg [.int .i64 kop, .str knm, .int .i64 knu, .sl (kks.map Tr.d)]) := by rw [hks, ← hka]; rfl
   have hlen : l.length = r.length + 1 := by rw [hks]; rfl
   have hdr : List.drop (Int.toNat 1) (List.map Tr.d l) = List.map Tr.d r := by rw [hks]; rfl
   have hne : ((l.map Tr.d).length : Int) ≠ 0 := by rw [List.length_map]; omega
   refine Z72 ?_;refine Z75 ?_;refine Z71 ?_;refine Z79 ?_
   refine g_callo (xs := [.tmp 67]) rfl hsp (c74 kop) ?_
   refine sgo rfl hsp y_not ?_
   refine Z152 ?_
   refine zgC ?_ ?_ <;> intro hb5
   ·
    have hx : varTail num l = false := by
     rw [beq_eq_false_iff_ne.2 hne, Bool.false_or] at hb5
     unfold varTail
     rw [if_pos hb4, hks]
     obtain ⟨g1, g2⟩ := hkop
     simp [g1] at hb5 ⊢
     simp [hb5]
    refine Z176 ?_;refine Z1 ?_
    refine gN (tN (gT (tR (tR ?_))))
    refine Z4 ?_
    exact ⟨by rw [hl1, hx], rfl⟩
   have hx : varTail num l = ((r.length : Int) == 0) := by
    rw [beq_eq_false_iff_ne.2 hne, Bool.false_or] at hb5
    unfold varTail
    rw [if_pos hb4, hks]
    obtain ⟨g1, g2⟩ := hkop
    simp [g1] at hb5 ⊢
    simp [hb5]
   refine Z77 ?_;refine Z155 ?_;refine Z2 ?_
   refine vq rfl ((q_slicel u22 sz27 (Tr.ds_cells l))) ?_
   rw [hdr]
   refine Z134 ?_;refine Z2 ?_;refine Z43 ?_;refine Z15 ?_;refine Z133 ?_
   exact ⟨by rw [hl1, hx]; simp, rfl⟩
  skip
  refine Z154 ?_;refine Z135 ?_;refine Z152 ?_
  refine zgC ?_ ?_ <;> intro hb6
  ·
   have hx : varTail num l = false := by
    cases l with
    | nil => unfold varTail; rw [if_pos hb4]
    | cons k r => exfalso; simp at hsp; omega
   refine Z176 ?_;refine Z1 ?_
   refine gN (tN (gT (tR (tR ?_))))
   refine Z4 ?_
   exact ⟨by rw [hl1, hx], rfl⟩
  exfalso
  have h0 : (((l.map Tr.d).length : Int) == 0) = true := by simpa using hsp
  exact absurd hb6 (by rw [h0, Bool.true_or]; decide)
 refine Z120 ?_;refine Z2 ?_;refine Z43 ?_;refine Z15 ?_;refine Z133 ?_
 exact ⟨by rw [hl1]; unfold varTail; rw [if_neg (by rw [hb4]; decide)]; simp, rfl⟩
theorem decode_wide (b : ByteArray) (i : Nat) : 0 < (Utf8.decode b i).2 := by
 unfold Utf8.decode
 dsimp only
 repeat' split
 all_goals first | decide | simp
def idxRune (p : Int → Bool) (b : ByteArray) (pos : Nat) : Int :=
 if pos < b.size then (if p (Utf8.decode b pos).1 = true then (pos : Int) else idxRune p b (pos + (Utf8.decode b pos).2)) else -1
termination_by b.size - pos
decreasing_by have := decode_wide b pos; omega
variable {pos : Nat}
theorem idxRune_end {p : Int → Bool} {b : ByteArray} (h : ¬ pos < b.size) : idxRune p b pos = -1 := by rw [idxRune, if_neg h]
theorem idxRune_hit {p : Int → Bool} {b : ByteArray} (h : pos < b.size) (h2 : p (Utf8.decode b pos).1 = true) : idxRune p b pos = pos := by rw [idxRune, if_pos h, if_pos h2]
theorem idxRune_miss {p : Int → Bool} {b : ByteArray} (h : pos < b.size) (h2 : p (Utf8.decode b pos).1 = false) : idxRune p b (pos + (Utf8.decode b pos).2) = idxRune p b pos := by
 rw [idxRune.eq_1 p b pos, if_pos h, if_neg (by rw [h2]; decide)]
def badR (r : Int) : Bool := decide (r < 32) || decide (r > 126)
def plainTx (s : ByteArray) : Bool := !decide (idxRune badR s 0 ≥ 0)
theorem c284 (r : Int) : Pf Tryz.prog 284 [.int .i32 r] (.d (.bool (badR r))) := by
 refine pf_body (rvs := [.tmp 2]) [(0, .d (.int .i32 r))] Tryz.func284 Tryz.ntmps284 Tryz.results284 (fun S0 O0 w0 m0 hm0 => ?_)
 refine Z194 ?_;refine Z44 ?_;refine Z170 ?_
 refine sg rfl (fun hg => sP 6 rfl hg q_gtr) ?_
 refine Z22 ?_;refine Z133 ?_
 exact ⟨rfl, rfl⟩
theorem c322 (s : ByteArray) (g : FuncId) (p : Int → Bool) (hcb : ∀ r, Pf Tryz.prog g [.int .i32 r] (.d (.bool (p r)))) : Pf Tryz.prog 322 [.str s, .fn (.func g) [] [], .bool true] (.d (.int .i64 (idxRune p s 0))) := by
 refine pf_body (rvs := [.tmp 6]) [(0, .d (.str s)), (1, .d (.fn (.func g) [] [])), (2, .d (.bool true))] Tryz.func322 Tryz.ntmps322 Tryz.results322 (fun S0 O0 w0 m0 hm0 => ?_)
 refine Z5 ?_;refine Z189 ?_
 refine sv rfl (y_rangeStr u9) ?_
 refine Z41 ?_
 refine g_loop (α := Nat) (fun z => ⟨[(10, .ref 0 0), (1, .d (.fn (.func g) [] [])), (2, .d (.bool true))], [[.mapc (iterK s z)]]⟩) (fun z => s.size - z) (fun z => idxRune p s z = idxRune p s 0) 0 rfl (fun z hz Q' hn0 he0 hr0 => ?_) (le_of)
 skip
 refine Z38 ?_
 rcases Nat.lt_or_ge z s.size with hlt | hge
 ·
  refine Z17 ?_
  refine sv rfl (y_next (b := s) (pos := z) (hlt := hlt)) ?_
  refine Z56 ?_;refine Z55 ?_
  refine zgC ?_ ?_ <;> intro hb0
  ·
   refine gK (tN (G_block (zgS (gR ?_))))
   refine Z197 ?_;refine Z1 ?_;refine Z134 ?_;refine Z144 ?_
   refine gL (xs := [.tmp 16]) rfl (hcb _) ?_
   refine Z2 ?_
   refine vq rfl (q_booleq u4) ?_
   refine Z9 ?_
   refine zgC ?_ ?_ <;> intro hb1
   ·
    refine Z173 ?_;refine Z1 ?_
    refine gN (tN (gT (bR ?_)))
    refine Z171 ?_;refine Z4 ?_
    exact ⟨by rw [← hz, idxRune_hit hlt (by simpa using hb1)], rfl⟩
   refine gK (bN ?_)
   refine hn0 _ (z + (Utf8.decode s z).2) (by rw [idxRune_miss hlt (by simpa using hb1)]; exact hz) (by have := decode_wide s z; omega) le_of
  cases hb0
 refine Z17 ?_
 refine sv rfl (y_nextEnd (b := s) (pos := z) (hlt := by omega)) ?_
 refine Z56 ?_;refine Z55 ?_
 refine zgC ?_ ?_ <;> intro hb2
 · cases hb2
 refine Z164 ?_;refine Z133 ?_
 exact ⟨by rw [← hz, idxRune_end (by omega)], rfl⟩
theorem c318 (s : ByteArray) (g : FuncId) (p : Int → Bool) (hcb : ∀ r, Pf Tryz.prog g [.int .i32 r] (.d (.bool (p r)))) : Pf Tryz.prog 318 [.str s, .fn (.func g) [] []] (.d (.int .i64 (idxRune p s 0))) := by
 refine pf_body (rvs := [.tmp 4]) [(0, .d (.str s)), (1, .d (.fn (.func g) [] []))] Tryz.func318 Tryz.ntmps318 Tryz.results318 (fun S0 O0 w0 m0 hm0 => ?_)
 refine Z157 ?_;refine Z144 ?_
 refine gL (xs := [.tmp 5, .tmp 6, .const (.bool true)]) rfl (c322 s g p hcb) ?_
 refine Z133 ?_
 exact ⟨rfl, rfl⟩
theorem c283 (s : ByteArray) (g : FuncId) (p : Int → Bool) (hcb : ∀ r, Pf Tryz.prog g [.int .i32 r] (.d (.bool (p r)))) : Pf Tryz.prog 283 [.str s, .fn (.func g) [] []] (.d (.bool (decide (idxRune p s 0 ≥ 0)))) := by
 refine pf_body (rvs := [.tmp 4]) [(0, .d (.str s)), (1, .d (.fn (.func g) [] []))] Tryz.func283 Tryz.ntmps283 Tryz.results283 (fun S0 O0 w0 m0 hm0 => ?_)
 refine Z157 ?_;refine Z144 ?_
 refine gL (xs := [.tmp 5, .tmp 6]) rfl (c318 s g p hcb) ?_
 refine Z83 ?_;refine Z133 ?_
 exact ⟨rfl, rfl⟩
end
end Go.Proofs.YtklkbfpjimeaoaaGreat
