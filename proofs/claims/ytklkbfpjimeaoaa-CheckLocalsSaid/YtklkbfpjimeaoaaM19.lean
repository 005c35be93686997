import Derived.Test.YtklkbfpjimeaoaaM18
/- Contracts of functions. Conditions: none. -/
set_option linter.unusedSimpArgs false
set_option linter.unusedVariables false
set_option maxRecDepth 20000
namespace Go.Proofs.Ytklkbfpjimeaoaa
open Go Go.Proofs.Ytklkbfpjimeaoaa.E
section
def letterB (c : Int) : Bool := (decide (c ≥ 97) && decide (c ≤ 122)) || (decide (c ≥ 65) && decide (c ≤ 90)) || decide (c = 95)
def charOk (i : Nat) (c : Int) : Bool := letterB c || (!decide (i = 0) && (decide (c ≥ 48) && decide (c ≤ 57)))
def nameB (s : ByteArray) : Bool := !(decide ((s.size : Int) < 1) || decide ((s.size : Int) > 40)) && s.data.toList.zipIdx.all fun x => charOk x.2 (x.1.toNat : Nat)
def preB (s p : ByteArray) : Bool := decide ((s.size : Int) ≥ (p.size : Nat)) && decide (s.extract 0 p.size = p)
def trimB (s p : ByteArray) : ByteArray := if preB s p = true then s.extract p.size s.size else s
theorem zipIdx_all {α : Type} {p : Nat → α → Bool} {xs : List α} (h : ∀ i, i < xs.length → ∀ x, xs[i]? = some x → p i x = true) : (xs.zipIdx.all fun x => p x.2 x.1) = true := by
 rw [List.all_eq_true]
 rintro ⟨x, i⟩ hx
 have := List.mem_zipIdx_iff_getElem?.1 hx
 exact h i (lG this) x this
theorem zipIdx_not {α : Type} {p : Nat → α → Bool} {xs : List α} {i : Nat} {x : α} (hx : xs[i]? = some x) (h : p i x = false) : (xs.zipIdx.all fun x => p x.2 x.1) = false := by
 rw [List.all_eq_false]
 exact ⟨(x, i), List.mem_zipIdx_iff_getElem?.2 hx, by simp [h]⟩
variable {z : Nat}
theorem upto_step {α : Type} {p : Nat → α → Bool} {xs : List α} {x : α} (h : ∀ i, i < z → ∀ y, xs[i]? = some y → p i y = true) (hx : xs[z]? = some x) (hb : p z x = true) : ∀ i, i < z + 1 → ∀ y, xs[i]? = some y → p i y = true := fun i hi y hy => by
 by_cases hiz : i = z
 · subst hiz; rw [hx] at hy; injection hy with hy; subst hy; exact hb
 · exact h i (by omega) y hy
theorem bytesD_get {b : ByteArray} {c : UInt8} (h : b.data.toList[z]? = some c) : (bytesD b)[z]? = some (.int .u8 (c.toNat : Nat)) := by unfold bytesD; rw [List.getElem?_map, h]; rfl
theorem c319 (s p : ByteArray) : Pf Try.prog 107 [.str s, .str p] (.d (.bool (preB s p))) := by
 refine pf_body (rvs := [.tmp 4]) [(0, .d (.str s)), (1, .d (.str p))] Try.func107 Try.ntmps107 Try.results107 (fun S0 O0 w0 m0 hm0 => ?_)
 refine Z100 ?_;refine Z56 ?_;refine Z1 ?_;refine Z56 ?_;refine Z58 ?_;refine Z1 ?_
 refine g_split 10 true (fun hsp => ?_) (fun hsp => ?_)
 ·
  refine Z60 ?_;refine Z60 ?_
  refine sgo rfl hsp (y_lenstr u9) ?_
  refine sgo rfl hsp (Yld_pure rfl (oR rfl) (q_strh u9 (h1 := by simpa using hsp))) ?_
  refine Z60 ?_
  refine sgo rfl hsp y_streq ?_
  refine Z114 ?_
  exact ⟨by simp [preB], rfl⟩
 refine Z115 ?_;refine Z87 ?_;refine Z114 ?_
 exact ⟨by simp at hsp; simp [preB]; omega, rfl⟩
theorem c287 (s p : ByteArray) : Pf Try.prog 106 [.str s, .str p] (.d (.str (trimB s p))) := by
 refine pf_body (rvs := [.tmp 4]) [(0, .d (.str s)), (1, .d (.str p))] Try.func106 Try.ntmps106 Try.results106 (fun S0 O0 w0 m0 hm0 => ?_)
 refine Z5 ?_;refine Z96 ?_;refine Z108 ?_
 refine gL (xs := [.tmp 5, .tmp 6]) rfl (c319 s p) ?_
 refine Z12 ?_
 refine zgC ?_ ?_ <;> intro hb0
 ·
  have hle : (p.size : Int) ≤ s.size := by
   simp only [preB, Bool.and_eq_true, decide_eq_true_eq] at hb0
   exact hb0.1
  refine Z101 ?_;refine Z1 ?_;refine Z56 ?_
  refine vq rfl ((q_strl u9)) ?_
  refine Z102 ?_
  exact ⟨by rw [trimB, if_pos hb0]; rfl, rfl⟩
 refine gK (tN (zgS (gR ?_)))
 refine Z1 ?_;refine Z85 ?_
 exact ⟨by rw [trimB, if_neg (by simp [hb0])], rfl⟩
theorem c235 (s p : ByteArray) : Pf Try.prog 104 [.str s, .str p] (.d (.str (trimB s p))) := by
 refine pf_body (rvs := [.tmp 4]) [(0, .d (.str s)), (1, .d (.str p))] Try.func104 Try.ntmps104 Try.results104 (fun S0 O0 w0 m0 hm0 => ?_)
 refine Z100 ?_;refine Z1 ?_
 refine gL (xs := [.tmp 5, .tmp 6]) rfl (c287 s p) ?_
 refine Z85 ?_
 exact ⟨rfl, rfl⟩
set_option maxHeartbeats 1000000 in
theorem c167 (s : ByteArray) : Pf Try.prog 99 [.str s] (.d (.bool (nameB s))) := by
 refine pf_body (rvs := [.tmp 2]) [(0, .d (.str s))] Try.func99 Try.ntmps99 Try.results99 (fun S0 O0 w0 m0 hm0 => ?_)
 refine Z5 ?_;refine Z96 ?_;refine Z1 ?_;refine Z56 ?_;refine Z44 ?_;refine Z113 ?_
 refine sg rfl (fun hg => sP 10 rfl hg (q_lenstr u9)) ?_
 refine sg rfl (fun hg => sP 11 rfl hg q_gtr) ?_
 refine Z111 ?_
 refine zgC ?_ ?_ <;> intro hb0
 ·
  have hnm : nameB s = false := by unfold nameB; rw [hb0]; rfl
  refine Z5 ?_;refine Z102 ?_
  exact ⟨by rw [hnm], rfl⟩
 have hsz : 1 ≤ s.size ∧ s.size ≤ 40 := by
  simp only [Bool.or_eq_false_iff, decide_eq_false_iff_not] at hb0
  omega
 refine gK (tN (zgS (zgS (gR ?_))))
 refine Z1 ?_
 refine sv rfl (y_strbytes u9 u133 u5) ?_
 refine vq rfl (q_len u133) ?_
 refine Z105 ?_
 refine g_loop (α := Nat) (fun z => ⟨[(17, .d (.int .i64 (z : Nat))), (16, .d (.int .i64 ((bytesD s).length : Nat))), (15, .d (.sl (bytesD s)))], []⟩) (fun z => s.size - z) (fun z => z ≤ s.size ∧ ∀ i, i < z → ∀ c, s.data.toList[i]? = some c → charOk i (c.toNat : Nat) = true) 0 ⟨Nat.zero_le _, by simp⟩ (fun z hz Q' hn0 he0 hr0 => ?_) (le_of)
 obtain ⟨hz1, hz2⟩ := hz
 have hbl := bytesD_length s
 refine Z107 ?_
 refine zgC ?_ ?_ <;> intro hb1
 ·
  have hlt : z < s.size := by
   have : (z : Int) < ((bytesD s).length : Nat) := by simpa using hb1
   omega
  obtain ⟨c, hc⟩ : ∃ c, s.data.toList[z]? = some c := ⟨_, gE (by rw [bytes_len]; exact hlt)⟩
  have hcd := bytesD_get hc
  refine Z25 ?_;refine Z1 ?_
  refine vq rfl (qI u133 sz5) ?_
  first | refine sv rfl (y_load_leaf u5) ?_ | refine vq rfl (qL u5) ?_
  refine Z2 ?_;refine Z90 ?_;refine Z58 ?_;refine Z113 ?_
  refine sg rfl (fun hg => sP 25 rfl hg q_leq) ?_
  refine Z18 ?_;refine Z113 ?_
  refine sg rfl (fun hg => sP 29 rfl hg q_geq) ?_
  refine sg rfl (fun hg => sP 30 rfl hg qM) ?_
  refine Z28 ?_
  refine sg rfl (fun hg => sP 32 rfl hg q_leq) ?_
  refine sg rfl (fun hg => sP 31 rfl hg q_and) ?_
  refine Z16 ?_;refine Z113 ?_
  refine sg rfl (fun hg => sP 37 rfl hg q_eql) ?_
  refine Z16 ?_;refine Z2 ?_;refine Z35 ?_
  refine gP [0, 2, 3, 4, 5, 15, 16, 17] ?_
  refine Z22 ?_;refine Z1 ?_;refine Z47 ?_;refine Z113 ?_
  refine sg rfl (fun hg => sP 43 rfl hg q_eql) ?_
  refine sg rfl (fun hg => sP 44 rfl hg qM) ?_
  refine Z28 ?_
  refine sg rfl (fun hg => sP 46 rfl hg q_lss) ?_
  refine sg rfl (fun hg => sP 45 rfl hg q_or) ?_
  refine sg rfl (fun hg => sP 48 rfl hg qM) ?_
  refine Z28 ?_
  refine sg rfl (fun hg => sP 50 rfl hg q_gtr) ?_
  refine sg rfl (fun hg => sP 49 rfl hg q_or) ?_
  refine Z18 ?_;refine Z12 ?_
  refine zgC ?_ ?_ <;> intro hb2
  ·
   have hch : charOk z (c.toNat : Nat) = false := by
    simp only [Bool.and_eq_true, Bool.or_eq_true, Bool.not_eq_true', Bool.or_eq_false_iff, Bool.and_eq_false_iff, decide_eq_true_eq, decide_eq_false_iff_not, beq_iff_eq, beq_eq_false_iff_ne, bne_iff_ne, bne_eq_false_iff_eq] at hb2
    simp only [charOk, letterB, Bool.or_eq_false_iff, Bool.and_eq_false_iff, Bool.not_eq_false', decide_eq_true_eq, decide_eq_false_iff_not]
    omega
   refine Z49 ?_
   refine gP [0, 2, 3, 4, 5, 15, 16, 17] ?_
   refine Z22 ?_;refine Z103 ?_;refine Z70 ?_;refine Z67 ?_;refine Z4 ?_
   exact ⟨by rw [nameB, zipIdx_not (p := fun i (c : UInt8) => charOk i (c.toNat : Nat)) hc hch, Bool.and_false], rfl⟩
  have hch : charOk z (c.toNat : Nat) = true := by
   simp only [Bool.and_eq_false_iff, Bool.or_eq_false_iff, Bool.not_eq_false', Bool.or_eq_true, Bool.and_eq_true, decide_eq_true_eq, decide_eq_false_iff_not, beq_iff_eq, beq_eq_false_iff_ne, bne_iff_ne, bne_eq_false_iff_eq] at hb2
   simp only [charOk, letterB, Bool.or_eq_true, Bool.and_eq_true, Bool.not_eq_true', decide_eq_true_eq, decide_eq_false_iff_not]
   omega
  refine gK (bN (tN ?_))
  refine gP [0, 2, 3, 4, 5, 15, 16, 17] ?_
  refine Z22 ?_;refine Z94 ?_
  refine hn0 _ (z + 1) ⟨by omega, upto_step (p := fun i (c : UInt8) => charOk i (c.toNat : Nat)) hz2 hc hch⟩ (by omega) le_of
 have hge : z = s.size := by
  have : ¬ (z : Int) < ((bytesD s).length : Nat) := by simpa using hb1
  omega
 refine Z118 ?_;refine Z85 ?_
 exact ⟨by rw [nameB, zipIdx_all (p := fun i (c : UInt8) => charOk i (c.toNat : Nat)) (fun i hi x hx => hz2 i (by rw [bytes_len] at hi; omega) x hx)]; simp; omega, rfl⟩
def hasB (ns : List ByteArray) (n : ByteArray) : Bool := ns.any fun s => decide (n = s)
theorem strs_get {ns : List ByteArray} {s : ByteArray} (h : ns[z]? = some s) : (ns.map D.str)[z]? = some (.str s) := by rw [List.getElem?_map, h]; rfl
theorem c260 (ts : List ByteArray) (v : ByteArray) (hlim : ts.length ≤ 140737488355328) : Pf Try.prog 88 [.sl (ts.map .str), .str v] (.d (.int .i64 (idxL (fun s => decide (v = s)) ts))) := by
 refine pf_body (rvs := [.tmp 4]) [(0, .d (.sl (ts.map .str))), (1, .d (.str v))] Try.func88 Try.ntmps88 Try.results88 (fun S0 O0 w0 m0 hm0 => ?_)
 refine Z5 ?_;refine Z96 ?_;refine Z1 ?_
 refine vq rfl (q_len u40) ?_
 refine Z105 ?_
 refine g_loop (α := Nat) (fun z => ⟨[(8, .d (.int .i64 (z : Nat))), (7, .d (.int .i64 ((ts.map D.str).length : Nat))), (6, .d (.sl (ts.map .str))), (1, .d (.str v)), (0, .d (.sl (ts.map .str)))], []⟩) (fun z => ts.length - z) (fun z => z ≤ ts.length ∧ ∀ i, i < z → ∀ x, ts[i]? = some x → (fun s => decide (v = s)) x = false) 0 ⟨Nat.zero_le _, by simp⟩ (fun z hz Q' hn0 he0 hr0 => ?_) (le_of)
 obtain ⟨hz1, hz2⟩ := hz
 refine Z107 ?_
 refine zgC ?_ ?_ <;> intro hb0
 ·
  have hlt : z < ts.length := by simpa using hb0
  obtain ⟨x, hx⟩ : ∃ x, ts[z]? = some x := ⟨_, gE hlt⟩
  have hmem := mG hx
  have hxd := strs_get hx
  refine Z25 ?_;refine Z1 ?_;refine Z90 ?_;refine Z108 ?_
  refine vq rfl (qI u40 sz9) ?_
  first | refine sv rfl (y_load_leaf u9) ?_ | refine vq rfl (qL u9) ?_
  refine vq rfl q_streq ?_
  refine Z12 ?_
  refine zgC ?_ ?_ <;> intro hb1
  ·
   refine Z101 ?_;refine Z103 ?_;refine Z70 ?_;refine Z67 ?_
   exact Y5
  refine Z71 ?_;refine Z94 ?_
  refine hn0 _ (z + 1) ⟨by omega, idxL_step hz2 hx hb1⟩ (by omega) le_of
 have hge : z = ts.length := by
  have : ¬ (z : Int) < (ts.map D.str).length := by simpa using hb0
  rw [List.length_map] at this
  omega
 refine Z118 ?_;refine Z83 ?_
 exact Y6
theorem c282 (ts : List ByteArray) (g : FuncId) (fa fc : List D) (p : ByteArray → Bool) (hlim : ts.length ≤ 140737488355328)
 (hcb : ∀ x ∈ ts, Pf Try.prog g (fa ++ [.str x] ++ fc) (.d (.bool (p x)))) : Pf Try.prog 39 [.sl (ts.map .str), .fn (.func g) fa fc] (.d (.int .i64 (idxL p ts))) := by
 refine pf_body (rvs := [.tmp 4]) [(0, .d (.sl (ts.map .str))), (1, .d (.fn (.func g) fa fc))] Try.func39 Try.ntmps39 Try.results39 (fun S0 O0 w0 m0 hm0 => ?_)
 refine Z5 ?_;refine Z96 ?_;refine Z1 ?_
 refine vq rfl (q_len u40) ?_
 refine Z105 ?_
 refine g_loop (α := Nat) (fun z => ⟨[(8, .d (.int .i64 (z : Nat))), (7, .d (.int .i64 ((ts.map D.str).length : Nat))), (6, .d (.sl (ts.map .str))), (1, .d (.fn (.func g) fa fc)), (0, .d (.sl (ts.map .str)))], []⟩) (fun z => ts.length - z) (fun z => z ≤ ts.length ∧ ∀ i, i < z → ∀ x, ts[i]? = some x → p x = false) 0 ⟨Nat.zero_le _, by simp⟩ (fun z hz Q' hn0 he0 hr0 => ?_) (le_of)
 obtain ⟨hz1, hz2⟩ := hz
 refine Z107 ?_
 refine zgC ?_ ?_ <;> intro hb0
 ·
  have hlt : z < ts.length := by simpa using hb0
  obtain ⟨x, hx⟩ : ∃ x, ts[z]? = some x := ⟨_, gE hlt⟩
  have hmem := mG hx
  have hxd := strs_get hx
  refine Z25 ?_;refine Z1 ?_;refine Z90 ?_;refine Z108 ?_
  refine vq rfl (qI u40 sz9) ?_
  first | refine sv rfl (y_load_leaf u9) ?_ | refine vq rfl (qL u9) ?_
  refine gL (xs := [.tmp 15]) rfl (hcb x hmem) ?_
  refine Z12 ?_
  refine zgC ?_ ?_ <;> intro hb1
  ·
   refine Z101 ?_;refine Z103 ?_;refine Z70 ?_;refine Z67 ?_
   exact Y5
  refine Z71 ?_;refine Z94 ?_
  refine hn0 _ (z + 1) ⟨by omega, idxL_step hz2 hx hb1⟩ (by omega) le_of
 have hge : z = ts.length := by
  have : ¬ (z : Int) < (ts.map D.str).length := by simpa using hb0
  rw [List.length_map] at this
  omega
 refine Z118 ?_;refine Z83 ?_
 exact Y6
theorem c199 (ts : List ByteArray) (v : ByteArray) (hlim : ts.length ≤ 140737488355328) : Pf Try.prog 59 [.sl (ts.map .str), .str v] (.d (.bool (hasB ts v))) := by
 refine pf_body (rvs := [.tmp 4]) [(0, .d (.sl (ts.map .str))), (1, .d (.str v))] Try.func59 Try.ntmps59 Try.results59 (fun S0 O0 w0 m0 hm0 => ?_)
 refine Z100 ?_;refine Z1 ?_
 refine gL (xs := [.tmp 5, .tmp 6]) rfl (c260 ts v hlim) ?_
 refine Z58 ?_;refine Z85 ?_
 exact ⟨by rw [idxL_any]; rfl, rfl⟩
theorem c230 (ts : List ByteArray) (g : FuncId) (fa fc : List D) (p : ByteArray → Bool) (hlim : ts.length ≤ 140737488355328)
 (hcb : ∀ x ∈ ts, Pf Try.prog g (fa ++ [.str x] ++ fc) (.d (.bool (p x)))) : Pf Try.prog 15 [.sl (ts.map .str), .fn (.func g) fa fc] (.d (.bool (ts.any p))) := by
 refine pf_body (rvs := [.tmp 4]) [(0, .d (.sl (ts.map .str))), (1, .d (.fn (.func g) fa fc))] Try.func15 Try.ntmps15 Try.results15 (fun S0 O0 w0 m0 hm0 => ?_)
 refine Z100 ?_;refine Z1 ?_
 refine gL (xs := [.tmp 5, .tmp 6]) rfl (c282 ts g fa fc p hlim hcb) ?_
 refine Z58 ?_;refine Z85 ?_
 exact ⟨by rw [idxL_any], rfl⟩
def kindOk (c : Int) (op : Int) : Bool := if c = 101 then isExprB op else if c = 98 then decide (op = 66) else if c = 110 then decide (op = 4) else true
def kidsB (ks : List Tr) (s : ByteArray) : Bool := decide (ks.length = s.size) && ks.zipIdx.all fun x => kindOk ((s[x.2]!).toNat : Nat) x.1.op
theorem kidsB_len {ks : List Tr} {s : ByteArray} (h : kidsB ks s = true) : ks.length = s.size := by
 unfold kidsB at h
 rw [Bool.and_eq_true, decide_eq_true_eq] at h
 exact h.1
set_option maxHeartbeats 4000000 in
theorem c156 (t : Tr) (s : ByteArray) (hok : t.Ok) : Pf Try.prog 71 [t.d, .str s] (.d (.bool (kidsB t.kids s))) := by
 obtain ⟨op, name, num, ks⟩ := t
 rw [Tr.d_mk]
 try simp only [Tr.op_mk, Tr.nm_mk, Tr.nu_mk, Tr.kids_mk]
 cases hok with | mk h1 h2 h3 h4 h5 =>
 refine pf_body (rvs := [.tmp 4]) [(0, .d (.agg [.int .i64 op, .str name, .int .i64 num, .sl (ks.map Tr.d)])), (1, .d (.str s))] Try.func71 Try.ntmps71 Try.results71 (fun S0 O0 w0 m0 hm0 => ?_)
 refine Z92 ?_;refine Z96 ?_
 first | refine sv rfl (y_fieldAt 3 u27 rfl sz22) ?_ | refine vq rfl (q_fieldAddr u27 rfl sz22) ?_ | refine vq rfl (qF u27 rfl sz22) ?_
 first | refine sv rfl (y_load_leaf u22) ?_ | refine vq rfl (qL u22) ?_
 refine Z39 ?_;refine Z1 ?_;refine Z56 ?_;refine Z72 ?_;refine Z12 ?_
 refine zgC ?_ ?_ <;> intro hb0
 ·
  have hne : ¬ ks.length = s.size := by
   simp at hb0
   omega
  refine Z5 ?_;refine Z102 ?_
  exact ⟨by rw [kidsB]; simp [Tr.kids, hne], rfl⟩
 have hle : ks.length = s.size := by
  simp at hb0
  omega
 refine gK (tN (zgS (zgS (gR ?_))))
 first | refine sv rfl (y_fieldAt 3 u27 rfl sz22) ?_ | refine vq rfl (q_fieldAddr u27 rfl sz22) ?_ | refine vq rfl (qF u27 rfl sz22) ?_
 first | refine sv rfl (y_load_leaf u22) ?_ | refine vq rfl (qL u22) ?_
 refine Z39 ?_;refine Z105 ?_
 refine g_loop (α := Nat) (fun z => ⟨[(16, .d (.int .i64 (z : Nat))), (15, .d (.int .i64 ((ks.map Tr.d).length : Nat))), (14, .d (.sl (ks.map Tr.d))), (1, .d (.str s))], []⟩) (fun z => ks.length - z) (fun z => z ≤ ks.length ∧ ∀ i, i < z → ∀ k, ks[i]? = some k → kindOk ((s[i]!).toNat : Nat) k.op = true) 0 ⟨Nat.zero_le _, by simp⟩ (fun z hz Q' hn0 he0 hr0 => ?_) (le_of)
 obtain ⟨hz1, hz2⟩ := hz
 refine Z107 ?_
 refine zgC ?_ ?_ <;> intro hb1
 ·
  have hlt : z < ks.length := by simpa using hb1
  obtain ⟨k, hk⟩ : ∃ k, ks[z]? = some k := ⟨_, gE hlt⟩
  have hmem := mG hk
  have hxd := Tr.ds_get hk
  have hxa := hxd
  obtain ⟨kop, knm, knu, kks, hka⟩ := k.d_agg
  rw [hka] at hxa
  have hkop : k.op = kop := by obtain ⟨o, n, u, l⟩ := k; rw [Tr.d_mk] at hka; injection hka with hka; injection hka with hka; injection hka
  refine Z25 ?_;refine Z1 ?_;refine Z68 ?_
  first | refine sv rfl (y_load_agg sz27 u27 rfl) ?_ | refine vq rfl (qG (by exact sz27) u27 rfl) ?_
  refine Z62 ?_;refine Z2 ?_
  first | refine sa rfl (dS sz27) ?_ | refine sa rfl (d_store_take sz27) ?_
  refine Z48 ?_;refine Z7 ?_;refine Z108 ?_
  refine vq rfl ((q_strindex u9 (h0 := by omega) (h1 := by omega))) ?_
  rw [Int.toNat_natCast]
  refine gN (tN (G_block (zgS (gR ?_))))
  refine Z29 ?_;refine Z116 ?_
  refine zgC ?_ ?_ <;> intro hb2
  ·
   refine Z49 ?_
   refine gP [0, 1, 2, 4, 5, 6, 14, 15, 16, 23] ?_
   refine Z22 ?_
   first | refine sv rfl (y_fieldAt 0 u27 rfl sz3) ?_ | refine vq rfl (q_fieldAddr u27 rfl sz3) ?_ | refine vq rfl (qF u27 rfl sz3) ?_
   first | refine sv rfl (y_load_leaf u3) ?_ | refine vq rfl (qL u3) ?_
   refine gL (xs := [.tmp 27]) rfl (c74 kop) ?_
   refine Z47 ?_;refine Z12 ?_
   refine zgC ?_ ?_ <;> intro hb3
   ·
    refine Z5 ?_;refine Z2 ?_
    refine gN (tN (gT (bR (bR (tR ?_)))))
    refine Z70 ?_;refine Z67 ?_;refine Z4 ?_
    exact ⟨by rw [kidsB, zipIdx_not (p := fun i (k : Tr) => kindOk ((s[i]!).toNat : Nat) k.op) hk (by rw [hkop]; unfold kindOk; rw [if_pos (oR hb2)]; simpa using hb3), Bool.and_false], rfl⟩
   refine gK (bN (bN (tN (gR ?_))))
   refine Z94 ?_
   refine hn0 _ (z + 1) ⟨by omega, upto_step (p := fun i (k : Tr) => kindOk ((s[i]!).toNat : Nat) k.op) hz2 hk (by rw [hkop]; unfold kindOk; rw [if_pos (oR hb2)]; simpa using hb3)⟩ (by omega) le_of
  refine Z49 ?_
  refine gP [0, 1, 2, 4, 5, 6, 14, 15, 16, 23] ?_
  refine Z22 ?_;refine Z29 ?_;refine Z116 ?_
  refine zgC ?_ ?_ <;> intro hb4
  ·
   refine Z5 ?_
   first | refine sv rfl (y_fieldAt 0 u27 rfl sz3) ?_ | refine vq rfl (q_fieldAddr u27 rfl sz3) ?_ | refine vq rfl (qF u27 rfl sz3) ?_
   first | refine sv rfl (y_load_leaf u3) ?_ | refine vq rfl (qL u3) ?_
   refine Z72 ?_;refine Z12 ?_
   refine zgC ?_ ?_ <;> intro hb5
   ·
    refine Z5 ?_;refine Z2 ?_
    refine gN (tN (gT (bR (bR (tR ?_)))))
    refine Z70 ?_;refine Z67 ?_;refine Z4 ?_
    exact ⟨by rw [kidsB, zipIdx_not (p := fun i (k : Tr) => kindOk ((s[i]!).toNat : Nat) k.op) hk (by rw [hkop]; unfold kindOk; rw [if_neg (of_decide_eq_false hb2), if_pos (oR hb4)]; simpa using hb5), Bool.and_false], rfl⟩
   refine gK (bN (bN (tN (gR ?_))))
   refine Z94 ?_
   refine hn0 _ (z + 1) ⟨by omega, upto_step (p := fun i (k : Tr) => kindOk ((s[i]!).toNat : Nat) k.op) hz2 hk (by rw [hkop]; unfold kindOk; rw [if_neg (of_decide_eq_false hb2), if_pos (oR hb4)]; simpa using hb5)⟩ (by omega) le_of
  refine Z5 ?_;refine Z29 ?_;refine Z116 ?_
  refine zgC ?_ ?_ <;> intro hb6
  ·
   refine Z5 ?_
   first | refine sv rfl (y_fieldAt 0 u27 rfl sz3) ?_ | refine vq rfl (q_fieldAddr u27 rfl sz3) ?_ | refine vq rfl (qF u27 rfl sz3) ?_
   first | refine sv rfl (y_load_leaf u3) ?_ | refine vq rfl (qL u3) ?_
   refine Z72 ?_;refine Z12 ?_
   refine zgC ?_ ?_ <;> intro hb7
   ·
    refine Z5 ?_;refine Z2 ?_
    refine gN (tN (gT (bR (bR (tR ?_)))))
    refine Z70 ?_;refine Z67 ?_;refine Z4 ?_
    exact ⟨by rw [kidsB, zipIdx_not (p := fun i (k : Tr) => kindOk ((s[i]!).toNat : Nat) k.op) hk (by rw [hkop]; unfold kindOk; rw [if_neg (of_decide_eq_false hb2), if_neg (of_decide_eq_false hb4), if_pos (oR hb6)]; simpa using hb7), Bool.and_false], rfl⟩
   refine gK (bN (bN (tN (gR ?_))))
   refine Z94 ?_
   refine hn0 _ (z + 1) ⟨by omega, upto_step (p := fun i (k : Tr) => kindOk ((s[i]!).toNat : Nat) k.op) hz2 hk (by rw [hkop]; unfold kindOk; rw [if_neg (of_decide_eq_false hb2), if_neg (of_decide_eq_false hb4), if_pos (oR hb6)]; simpa using hb7)⟩ (by omega) le_of
  refine gK (bN (bN (tN (gR ?_))))
  refine Z94 ?_
  refine hn0 _ (z + 1) ⟨by omega, upto_step (p := fun i (k : Tr) => kindOk ((s[i]!).toNat : Nat) k.op) hz2 hk (by rw [hkop]; unfold kindOk; rw [if_neg (of_decide_eq_false hb2), if_neg (of_decide_eq_false hb4), if_neg (of_decide_eq_false hb6)])⟩ (by omega) le_of
 have hge : z = ks.length := by
  have : ¬ (z : Int) < (ks.map Tr.d).length := by simpa using hb1
  rw [List.length_map] at this
  omega
 refine Z118 ?_;refine Z85 ?_
 exact ⟨by rw [kidsB, zipIdx_all (p := fun i (k : Tr) => kindOk ((s[i]!).toNat : Nat) k.op) (fun i hi x hx => hz2 i (by have : i < ks.length := hi; omega) x hx)]; simp [Tr.kids, hle], rfl⟩
end
section
theorem c160 (op : Int) : Pf Try.prog 75 [.int .i64 op] (.d (.bool (op == 66))) := by
 refine pf_body (rvs := [.tmp 2]) [(0, .d (.int .i64 op))] Try.func75 Try.ntmps75 Try.results75 (fun S0 O0 w0 m0 hm0 => ?_)
 refine Z100 ?_;refine Z29 ?_;refine Z85 ?_
 exact ⟨rfl, rfl⟩
theorem c232 (op : Int) : Pf Try.prog 92 [.int .i64 op] (.d (.bool (op == 67))) := by
 refine pf_body (rvs := [.tmp 2]) [(0, .d (.int .i64 op))] Try.func92 Try.ntmps92 Try.results92 (fun S0 O0 w0 m0 hm0 => ?_)
 refine Z100 ?_;refine Z29 ?_;refine Z85 ?_
 exact ⟨rfl, rfl⟩
theorem c163 (op : Int) : Pf Try.prog 78 [.int .i64 op] (.d (.bool (isExprB op || op == 3))) := by
 refine pf_body (rvs := [.tmp 2]) [(0, .d (.int .i64 op))] Try.func78 Try.ntmps78 Try.results78 (fun S0 O0 w0 m0 hm0 => ?_)
 refine Z100 ?_
 refine gL (xs := [.tmp 3]) rfl (c74 op) ?_
 refine Z113 ?_
 refine sg rfl (fun hg => sP 6 rfl hg q_eql) ?_
 refine Z16 ?_;refine Z85 ?_
 exact ⟨rfl, rfl⟩
theorem c286 (op : Int) : Pf Try.prog 102 [.int .i64 op] (.d (.bool (isExprB op || op == 30))) := by
 refine pf_body (rvs := [.tmp 2]) [(0, .d (.int .i64 op))] Try.func102 Try.ntmps102 Try.results102 (fun S0 O0 w0 m0 hm0 => ?_)
 refine Z100 ?_
 refine gL (xs := [.tmp 3]) rfl (c74 op) ?_
 refine Z113 ?_
 refine sg rfl (fun hg => sP 6 rfl hg q_eql) ?_
 refine Z16 ?_;refine Z85 ?_
 exact ⟨rfl, rfl⟩
theorem c233 (t : Tr) (g : FuncId) (p : Int → Bool) (hcb : ∀ op, Pf Try.prog g [.int .i64 op] (.d (.bool (p op)))) : Pf Try.prog 93 [t.d, .ptr (.fn (.func g) [] [])] (.d (.bool (!p t.op))) := by
 obtain ⟨op, name, num, ks⟩ := t
 rw [Tr.d_mk]
 try simp only [Tr.op_mk, Tr.nm_mk, Tr.nu_mk, Tr.kids_mk]
 refine pf_body (rvs := [.tmp 3]) [(0, .d (.agg [.int .i64 op, .str name, .int .i64 num, .sl (ks.map Tr.d)])), (1, .d (.ptr (.fn (.func g) [] [])))] Try.func93 Try.ntmps93 Try.results93 (fun S0 O0 w0 m0 hm0 => ?_)
 refine Z110 ?_
 first | refine sv rfl (y_load_leaf u67) ?_ | refine vq rfl (qL u67) ?_
 first | refine sv rfl (y_fieldAt 0 u27 rfl sz3) ?_ | refine vq rfl (q_fieldAddr u27 rfl sz3) ?_ | refine vq rfl (qF u27 rfl sz3) ?_
 first | refine sv rfl (y_load_leaf u3) ?_ | refine vq rfl (qL u3) ?_
 refine gL (xs := [.tmp 6]) rfl (hcb op) ?_
 refine Z47 ?_;refine Z85 ?_
 exact ⟨rfl, rfl⟩
def everyB (p : Int → Bool) (ks : List Tr) : Bool := !(ks.any fun k => !p k.op)
theorem Tr.kids_len {t : Tr} (h : t.Ok) : t.kids.length ≤ 140737488355328 := by cases h; assumption
theorem Tr.kids_ok {t : Tr} (h : t.Ok) : ∀ k ∈ t.kids, k.Ok := by cases h; assumption
theorem c159 (t : Tr) (g : FuncId) (p : Int → Bool) (hok : t.Ok) (hcb : ∀ op, Pf Try.prog g [.int .i64 op] (.d (.bool (p op)))) : Pf Try.prog 74 [t.d, .fn (.func g) [] []] (.d (.bool (everyB p t.kids))) := by
 obtain ⟨op, name, num, ks⟩ := t
 rw [Tr.d_mk]
 try simp only [Tr.op_mk, Tr.nm_mk, Tr.nu_mk, Tr.kids_mk]
 refine pf_body (rvs := [.tmp 4]) [(0, .d (.agg [.int .i64 op, .str name, .int .i64 num, .sl (ks.map Tr.d)])), (1, .d (.fn (.func g) [] []))] Try.func74 Try.ntmps74 Try.results74 (fun S0 O0 w0 m0 hm0 => ?_)
 refine Z92 ?_;refine Z19 ?_
 refine gF 0 [] (.fn (.func g) [] []) rfl ?_
 refine Z84 ?_
 first | refine sv rfl (y_fieldAt 3 u27 rfl sz22) ?_ | refine vq rfl (q_fieldAddr u27 rfl sz22) ?_ | refine vq rfl (qF u27 rfl sz22) ?_
 first | refine sv rfl (y_load_leaf u22) ?_ | refine vq rfl (qL u22) ?_
 refine vq rfl (q_makeFunc (xs := []) (ys := [.tmp 3])) ?_
 refine gL (xs := [.tmp 6, .tmp 7]) rfl (c52 ks 93 [] [.ptr (.fn (.func g) [] [])] (fun k => !p k.op) (Tr.kids_len hok) (fun x hx => c233 x g p hcb)) ?_
 refine Z47 ?_;refine Z85 ?_
 exact ⟨rfl, rfl⟩
theorem c152 (t : Tr) : Pf Try.prog 67 [t.d] (.d (.bool true)) := by
 obtain ⟨op, name, num, ks⟩ := t
 rw [Tr.d_mk]
 try simp only [Tr.op_mk, Tr.nm_mk, Tr.nu_mk, Tr.kids_mk]
 refine pf_body (rvs := [.tmp 2]) [(0, .d (.agg [.int .i64 op, .str name, .int .i64 num, .sl (ks.map Tr.d)]))] Try.func67 Try.ntmps67 Try.results67 (fun S0 O0 w0 m0 hm0 => ?_)
 refine Z110 ?_;refine Z85 ?_
 exact ⟨rfl, rfl⟩
def rule154 (t : Tr) : Bool := (t.nu == 0 || t.nu == 1) && (t.kids.length : Int) == 0
def opK (i : Nat) (ks : List Tr) : Int := match ks[i]? with | some k => k.op | none => 0
def ee : ByteArray := ⟨#[101, 101]⟩
def rule155 (t : Tr) : Bool := kidsB t.kids ee && (opK 0 t.kids == 4 || opK 0 t.kids == 12)
def rule158 (t : Tr) : Bool := decide ((t.kids.length : Int) > 0) && everyB (fun op => op == 66) t.kids
def rule161 (t : Tr) : Bool := (t.kids.length : Int) == 1 && (opK 0 t.kids == 13 || opK 0 t.kids == 15)
theorem c154 (t : Tr) : Pf Try.prog 69 [t.d] (.d (.bool (rule154 t))) := by
 obtain ⟨op, name, num, ks⟩ := t
 rw [Tr.d_mk]
 try simp only [Tr.op_mk, Tr.nm_mk, Tr.nu_mk, Tr.kids_mk]
 refine pf_body (rvs := [.tmp 2]) [(0, .d (.agg [.int .i64 op, .str name, .int .i64 num, .sl (ks.map Tr.d)]))] Try.func69 Try.ntmps69 Try.results69 (fun S0 O0 w0 m0 hm0 => ?_)
 refine Z110 ?_
 first | refine sv rfl (y_fieldAt 2 u27 rfl sz3) ?_ | refine vq rfl (q_fieldAddr u27 rfl sz3) ?_ | refine vq rfl (qF u27 rfl sz3) ?_
 first | refine sv rfl (y_load_leaf u3) ?_ | refine vq rfl (qL u3) ?_
 refine Z29 ?_;refine Z1 ?_
 first | refine sg rfl (fun hg => q_fieldAddr u27 rfl sz3) ?_ | refine sg rfl (fun hg => qF u27 rfl sz3) ?_
 first | refine sg rfl (fun hg => sP 7 rfl hg (qO u3)) ?_ | refine sg rfl (fun hg => sP 7 rfl hg (qL u3)) ?_
 refine sg rfl (fun hg => sP 8 rfl hg q_eql) ?_
 refine Z16 ?_;refine Z1 ?_
 first | refine sg rfl (fun hg => q_fieldAddr u27 rfl sz22) ?_ | refine sg rfl (fun hg => qF u27 rfl sz22) ?_
 first | refine sg rfl (fun hg => sP 12 rfl hg (qO u22)) ?_ | refine sg rfl (fun hg => sP 12 rfl hg (qL u22)) ?_
 refine sg rfl (fun hg => sP 13 rfl hg (q_len u22)) ?_
 refine sg rfl (fun hg => sP 14 rfl hg q_eql) ?_
 refine Z114 ?_
 exact ⟨by simp [rule154, Tr.nu, Tr.kids], rfl⟩
theorem c155 (t : Tr) (hok : t.Ok) : Pf Try.prog 70 [t.d] (.d (.bool (rule155 t))) := by
 obtain ⟨op, name, num, ks⟩ := t
 rw [Tr.d_mk]
 try simp only [Tr.op_mk, Tr.nm_mk, Tr.nu_mk, Tr.kids_mk]
 refine pf_body (rvs := [.tmp 2]) [(0, .d (.agg [.int .i64 op, .str name, .int .i64 num, .sl (ks.map Tr.d)]))] Try.func70 Try.ntmps70 Try.results70 (fun S0 O0 w0 m0 hm0 => ?_)
 refine Z110 ?_
 first | refine sv rfl (y_load_agg sz27 u27 rfl) ?_ | refine vq rfl (qG (by exact sz27) u27 rfl) ?_
 refine gL (xs := [.tmp 3, .const (.string ⟨#[101, 101]⟩)]) rfl ((Tr.d_mk op name num ks ▸ c156 (.mk op name num ks) ee hok)) ?_
 refine Z1 ?_
 refine g_split 5 true (fun hsp => ?_) (fun hsp => ?_)
 ·
  obtain ⟨k, r, hks⟩ : ∃ k r, ks = k :: r := by
   cases hks : ks with
   | nil => exfalso; have := kidsB_len (by simpa using hsp); rw [show (Tr.mk op name num ks).kids = ks from rfl, hks] at this; exact absurd this (by decide)
   | cons k r => exact ⟨k, r, rfl⟩
  subst hks
  obtain ⟨kop, knm, knu, kks, hka⟩ := k.d_agg
  have hkop : k.op = kop := by obtain ⟨o, n, u, l⟩ := k; rw [Tr.d_mk] at hka; injection hka with hka; injection hka with hka; injection hka
  have hxa : ((k :: r).map Tr.d)[0]? = some (.agg [.int .i64 kop, .str knm, .int .i64 knu, .sl (kks.map Tr.d)]) := by rw [← hka]; rfl
  first | refine sgo rfl hsp (y_fieldAddr u27 rfl sz22) ?_ | refine sgo rfl hsp (y_fieldp_leaf u27 rfl sz22) ?_
  first | refine sgo rfl hsp (y_load_leaf u22) ?_ | refine sgo rfl hsp (y_loadp_leaf u22) ?_
  refine Z73 ?_
  first | refine sgo rfl hsp (y_fieldAddr u27 rfl sz3) ?_ | refine sgo rfl hsp (y_fieldp_leaf u27 rfl sz3) ?_
  first | refine sgo rfl hsp (y_load_leaf u3) ?_ | refine sgo rfl hsp (y_loadp_leaf u3) ?_
  refine sgo rfl hsp y_eql ?_
  refine Z60 ?_
  first | refine sg rfl (fun hg => q_fieldAddr u27 rfl sz22) ?_ | refine sg rfl (fun hg => qF u27 rfl sz22) ?_
  first | refine sg rfl (fun hg => sP 13 rfl hg (qO u22)) ?_ | refine sg rfl (fun hg => sP 13 rfl hg (qL u22)) ?_
  refine sg rfl (fun hg => sP 14 rfl hg (qI u22 sz27)) ?_
  first | refine sg rfl (fun hg => sP 15 rfl hg (q_fieldAddr u27 rfl sz3)) ?_ | refine sg rfl (fun hg => sP 15 rfl hg (qF u27 rfl sz3)) ?_
  first | refine sg rfl (fun hg => sP 16 rfl hg (qO u3)) ?_ | refine sg rfl (fun hg => sP 16 rfl hg (qL u3)) ?_
  refine sg rfl (fun hg => sP 17 rfl hg q_eql) ?_
  refine sgo rfl hsp y_or ?_
  refine Z114 ?_
  exact ⟨by simp [rule155, Tr.kids, opK, hkop], rfl⟩
 skip
 refine Z115 ?_;refine Z115 ?_;refine Z115 ?_;refine Z87 ?_;refine Z114 ?_
 exact ⟨by simp [rule155, Tr.kids] at hsp ⊢; simp [hsp], rfl⟩
theorem c158 (t : Tr) (hok : t.Ok) : Pf Try.prog 73 [t.d] (.d (.bool (rule158 t))) := by
 obtain ⟨op, name, num, ks⟩ := t
 rw [Tr.d_mk]
 try simp only [Tr.op_mk, Tr.nm_mk, Tr.nu_mk, Tr.kids_mk]
 refine pf_body (rvs := [.tmp 2]) [(0, .d (.agg [.int .i64 op, .str name, .int .i64 num, .sl (ks.map Tr.d)]))] Try.func73 Try.ntmps73 Try.results73 (fun S0 O0 w0 m0 hm0 => ?_)
 refine Z110 ?_
 first | refine sv rfl (y_fieldAt 3 u27 rfl sz22) ?_ | refine vq rfl (q_fieldAddr u27 rfl sz22) ?_ | refine vq rfl (qF u27 rfl sz22) ?_
 first | refine sv rfl (y_load_leaf u22) ?_ | refine vq rfl (qL u22) ?_
 refine Z39 ?_;refine Z63 ?_;refine Z1 ?_
 first | refine sg rfl (fun hg => q_load_agg sz27 u27 rfl) ?_ | refine sg rfl (fun hg => qG (by exact sz27) u27 rfl) ?_
 refine g_callg (xs := [.tmp 8, .func 75]) rfl (fun hg => (Tr.d_mk op name num ks ▸ c159 (.mk op name num ks) 75 (fun op => op == 66) hok c160)) ?_
 refine Z114 ?_
 exact ⟨by simp [rule158, Tr.kids], rfl⟩
theorem c161 (t : Tr) (hok : t.Ok) : Pf Try.prog 76 [t.d] (.d (.bool (rule161 t))) := by
 obtain ⟨op, name, num, ks⟩ := t
 rw [Tr.d_mk]
 try simp only [Tr.op_mk, Tr.nm_mk, Tr.nu_mk, Tr.kids_mk]
 refine pf_body (rvs := [.tmp 2]) [(0, .d (.agg [.int .i64 op, .str name, .int .i64 num, .sl (ks.map Tr.d)]))] Try.func76 Try.ntmps76 Try.results76 (fun S0 O0 w0 m0 hm0 => ?_)
 refine Z110 ?_
 first | refine sv rfl (y_fieldAt 3 u27 rfl sz22) ?_ | refine vq rfl (q_fieldAddr u27 rfl sz22) ?_ | refine vq rfl (qF u27 rfl sz22) ?_
 first | refine sv rfl (y_load_leaf u22) ?_ | refine vq rfl (qL u22) ?_
 refine Z39 ?_;refine Z29 ?_;refine Z1 ?_
 refine g_split 7 true (fun hsp => ?_) (fun hsp => ?_)
 ·
  obtain ⟨k, r, hks⟩ : ∃ k r, ks = k :: r := by
   cases hks : ks with
   | nil => exfalso; rw [hks] at hsp; exact absurd hsp (by decide)
   | cons k r => exact ⟨k, r, rfl⟩
  subst hks
  obtain ⟨kop, knm, knu, kks, hka⟩ := k.d_agg
  have hkop : k.op = kop := by obtain ⟨o, n, u, l⟩ := k; rw [Tr.d_mk] at hka; injection hka with hka; injection hka with hka; injection hka
  have hxa : ((k :: r).map Tr.d)[0]? = some (.agg [.int .i64 kop, .str knm, .int .i64 knu, .sl (kks.map Tr.d)]) := by rw [← hka]; rfl
  first | refine sgo rfl hsp (y_fieldAddr u27 rfl sz22) ?_ | refine sgo rfl hsp (y_fieldp_leaf u27 rfl sz22) ?_
  first | refine sgo rfl hsp (y_load_leaf u22) ?_ | refine sgo rfl hsp (y_loadp_leaf u22) ?_
  refine Z73 ?_
  first | refine sgo rfl hsp (y_fieldAddr u27 rfl sz3) ?_ | refine sgo rfl hsp (y_fieldp_leaf u27 rfl sz3) ?_
  first | refine sgo rfl hsp (y_load_leaf u3) ?_ | refine sgo rfl hsp (y_loadp_leaf u3) ?_
  refine sgo rfl hsp y_eql ?_
  refine Z60 ?_
  first | refine sg rfl (fun hg => q_fieldAddr u27 rfl sz22) ?_ | refine sg rfl (fun hg => qF u27 rfl sz22) ?_
  first | refine sg rfl (fun hg => sP 15 rfl hg (qO u22)) ?_ | refine sg rfl (fun hg => sP 15 rfl hg (qL u22)) ?_
  refine sg rfl (fun hg => sP 16 rfl hg (qI u22 sz27)) ?_
  first | refine sg rfl (fun hg => sP 17 rfl hg (q_fieldAddr u27 rfl sz3)) ?_ | refine sg rfl (fun hg => sP 17 rfl hg (qF u27 rfl sz3)) ?_
  first | refine sg rfl (fun hg => sP 18 rfl hg (qO u3)) ?_ | refine sg rfl (fun hg => sP 18 rfl hg (qL u3)) ?_
  refine sg rfl (fun hg => sP 19 rfl hg q_eql) ?_
  refine sgo rfl hsp y_or ?_
  refine Z114 ?_
  exact ⟨by simp [rule161, Tr.kids, opK, hkop], rfl⟩
 skip
 refine Z115 ?_;refine Z115 ?_;refine Z115 ?_;refine Z87 ?_;refine Z114 ?_
 exact ⟨by simp [rule161, Tr.kids] at hsp ⊢; simp [hsp], rfl⟩
theorem c162 (t : Tr) (hok : t.Ok) : Pf Try.prog 77 [t.d] (.d (.bool (everyB (fun op => isExprB op || op == 3) t.kids))) := by
 obtain ⟨op, name, num, ks⟩ := t
 rw [Tr.d_mk]
 try simp only [Tr.op_mk, Tr.nm_mk, Tr.nu_mk, Tr.kids_mk]
 refine pf_body (rvs := [.tmp 2]) [(0, .d (.agg [.int .i64 op, .str name, .int .i64 num, .sl (ks.map Tr.d)]))] Try.func77 Try.ntmps77 Try.results77 (fun S0 O0 w0 m0 hm0 => ?_)
 refine Z110 ?_
 first | refine sv rfl (y_load_agg sz27 u27 rfl) ?_ | refine vq rfl (qG (by exact sz27) u27 rfl) ?_
 refine gL (xs := [.tmp 3, .func 78]) rfl ((Tr.d_mk op name num ks ▸ c159 (.mk op name num ks) 78 (fun op => isExprB op || op == 3) hok c163)) ?_
 refine Z85 ?_
 exact ⟨rfl, rfl⟩
theorem c164 (t : Tr) (hok : t.Ok) : Pf Try.prog 79 [t.d] (.d (.bool (everyB isStmtB t.kids))) := by
 obtain ⟨op, name, num, ks⟩ := t
 rw [Tr.d_mk]
 try simp only [Tr.op_mk, Tr.nm_mk, Tr.nu_mk, Tr.kids_mk]
 refine pf_body (rvs := [.tmp 2]) [(0, .d (.agg [.int .i64 op, .str name, .int .i64 num, .sl (ks.map Tr.d)]))] Try.func79 Try.ntmps79 Try.results79 (fun S0 O0 w0 m0 hm0 => ?_)
 refine Z110 ?_
 first | refine sv rfl (y_load_agg sz27 u27 rfl) ?_ | refine vq rfl (qG (by exact sz27) u27 rfl) ?_
 refine gL (xs := [.tmp 3, .func 47]) rfl ((Tr.d_mk op name num ks ▸ c159 (.mk op name num ks) 47 isStmtB hok c95)) ?_
 refine Z85 ?_
 exact ⟨rfl, rfl⟩
theorem c153 (ts : List ByteArray) : Pf Try.prog 68 [.sl (ts.map .str)] (.d (.fn (.func 90) [] [.ptr (.sl (ts.map .str))])) := by
 refine pf_body (rvs := [.tmp 2]) [(0, .d (.sl (ts.map .str)))] Try.func68 Try.ntmps68 Try.results68 (fun S0 O0 w0 m0 hm0 => ?_)
 refine Z91 ?_
 refine gF 0 [] (.sl (ts.map .str)) rfl ?_
 refine Z84 ?_
 refine vq rfl (q_makeFunc (xs := []) (ys := [.tmp 1])) ?_
 refine Z83 ?_
 refine find1 (by simp) ?_
 exact ⟨rfl, rfl⟩
theorem c231 (t : Tr) (s : ByteArray) (hok : t.Ok) : Pf Try.prog 91 [.str s, .ptr t.d] (.d (.bool (kidsB t.kids s))) := by
 obtain ⟨op, name, num, ks⟩ := t
 rw [Tr.d_mk]
 try simp only [Tr.op_mk, Tr.nm_mk, Tr.nu_mk, Tr.kids_mk]
 refine pf_body (rvs := [.tmp 3]) [(0, .d (.str s)), (1, .d (.ptr (.agg [.int .i64 op, .str name, .int .i64 num, .sl (ks.map Tr.d)])))] Try.func91 Try.ntmps91 Try.results91 (fun S0 O0 w0 m0 hm0 => ?_)
 refine Z5 ?_;refine Z84 ?_
 first | refine sv rfl (y_load_agg sz27 u27 rfl) ?_ | refine vq rfl (qG (by exact sz27) u27 rfl) ?_
 refine Z1 ?_
 refine gL (xs := [.tmp 4, .tmp 5]) rfl ((Tr.d_mk op name num ks ▸ c156 (.mk op name num ks) s hok)) ?_
 refine Z85 ?_
 exact ⟨rfl, rfl⟩
def formsB (ts : List ByteArray) (t : Tr) : Bool := ts.any fun s => kidsB t.kids s
theorem c229 (t : Tr) (ts : List ByteArray) (hok : t.Ok) (hlim : ts.length ≤ 140737488355328) : Pf Try.prog 90 [t.d, .ptr (.sl (ts.map .str))] (.d (.bool (formsB ts t))) := by
 obtain ⟨op, name, num, ks⟩ := t
 rw [Tr.d_mk]
 try simp only [Tr.op_mk, Tr.nm_mk, Tr.nu_mk, Tr.kids_mk]
 refine pf_body (rvs := [.tmp 3]) [(0, .d (.agg [.int .i64 op, .str name, .int .i64 num, .sl (ks.map Tr.d)])), (1, .d (.ptr (.sl (ts.map .str))))] Try.func90 Try.ntmps90 Try.results90 (fun S0 O0 w0 m0 hm0 => ?_)
 refine Z110 ?_
 first | refine sv rfl (y_load_leaf u40) ?_ | refine vq rfl (qL u40) ?_
 refine vq rfl (q_makeFunc (xs := []) (ys := [.tmp 2])) ?_
 refine gL (xs := [.tmp 4, .tmp 5]) rfl (c230 ts 91 [] [.ptr (.agg [.int .i64 op, .str name, .int .i64 num, .sl (ks.map Tr.d)])] (fun s => kidsB ks s) hlim (fun x hx => Tr.d_mk op name num ks ▸ c231 (.mk op name num ks) x hok)) ?_
 refine Z85 ?_
 exact ⟨rfl, rfl⟩
end
end Go.Proofs.Ytklkbfpjimeaoaa
