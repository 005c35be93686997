import Derived.Test.YtklkbfpjimeaoaaGreatM21
/- Contracts of functions. Conditions: none. -/
set_option linter.unusedSimpArgs false
set_option linter.unusedVariables false
set_option maxRecDepth 20000
namespace Go.Proofs.YtklkbfpjimeaoaaGreat
open Go Go.Proofs.YtklkbfpjimeaoaaGreat.E
section
set_option maxHeartbeats 4000000 in
theorem c92n : ∀ (n : Nat) (t : Tr), t.size ≤ n → t.Ok → t.size ≤ 1000000000 → Pf Tryz.prog 92 [t.d] (.tup [.d (.int .i64 t.size), .d (.int .i64 t.depth)]) := by
 intro n
 induction n with
 | zero => intro t h; exact absurd t.size_pos (by omega)
 | succ n ih =>
  intro t hsz hok hszb
  obtain ⟨op, name, num, ks⟩ := t
  have hkd : ∀ k ∈ ks, k.size ≤ n := fun k hk => by
   have := Tr.size_mem hk
   rw [Tr.size] at hsz
   omega
  rw [Tr.d_mk]
  cases hok with | mk h1 h2 h3 h4 h5 =>
  have hln := Tr.len_sizes ks
  rw [Tr.size] at hszb
  refine pf_body (rvs := [.tmp 2, .tmp 3]) [(0, .d (.agg [.int .i64 op, .str name, .int .i64 num, .sl (ks.map Tr.d)]))] Tryz.func92 Tryz.ntmps92 Tryz.results92 (fun S0 O0 w0 m0 hm0 => ?_)
  refine Z140 ?_;refine Z1 ?_;refine Z134 ?_;refine Z1 ?_;refine Z143 ?_;refine Z198 ?_
  refine g_loop (α := Nat × Int × Int) (fun z => ⟨[(6, .d (.int .i64 (z.1 : Nat))), (1, .d (.ptr (.agg [.int .i64 op, .str name, .int .i64 num, .sl (ks.map Tr.d)]))), (4, .d (.int .i64 z.2.1)), (5, .d (.int .i64 z.2.2))], []⟩) (fun z => ks.length - z.1) (fun z => z.1 ≤ ks.length ∧ 1 ≤ z.2.1 ∧ z.2.1 + Tr.sizes (ks.drop z.1) = 1 + Tr.sizes ks ∧ 0 ≤ z.2.2 ∧ z.2.2 ≤ Tr.sizes ks ∧ Tr.deeps (ks.drop z.1) z.2.2 = Tr.deeps ks 0) (0, 1, 0) ⟨Nat.zero_le _, by show (1 : Int) ≤ 1; omega, by show (1 : Int) + _ = _; simp, by show (0 : Int) ≤ 0; omega, by show (0 : Int) ≤ _; omega, rfl⟩ (fun z hz Q' hn0 he0 hr0 => ?_) (le_of)
  obtain ⟨z, c, e⟩ := z
  obtain ⟨hz1, hc1, hc2, hc3, hc4, hc5⟩ := hz
  replace hz1 : z ≤ ks.length := hz1
  replace hc1 : 1 ≤ c := hc1
  replace hc2 : c + Tr.sizes (ks.drop z) = 1 + Tr.sizes ks := hc2
  replace hc3 : 0 ≤ e := hc3
  replace hc4 : e ≤ Tr.sizes ks := hc4
  replace hc5 : Tr.deeps (ks.drop z) e = Tr.deeps ks 0 := hc5
  refine Z196 ?_;refine Z165 ?_;refine Z192 ?_
  refine zgC ?_ ?_ <;> intro hb0
  ·
   have hlt : z < ks.length := by simpa using hb0
   obtain ⟨k, hk⟩ : ∃ k, ks[z]? = some k := ⟨_, gE hlt⟩
   have hmem := mG hk
   have hxd := Tr.ds_get hk
   have hxa := hxd
   obtain ⟨kop, knm, knu, kks, hka⟩ := k.d_agg
   rw [hka] at hxa
   have hsd := Tr.sizes_drop hk
   have hdb := Tr.depth_bd k
   have hsm := Tr.size_mem hmem
   refine Z24 ?_;refine Z146 ?_;refine Z2 ?_;refine Z58 ?_;refine Z7 ?_
   refine gL (xs := [.tmp 21]) rfl ((hka ▸ ih k (hkd k hmem) (h5 k hmem) (by omega))) ?_
   refine Z2 ?_;refine Z197 ?_;refine Z162 ?_;refine Z55 ?_
   refine gP [0, 1, 2, 3, 4, 5, 6, 7, 8] ?_
   refine Z17 ?_;refine Z144 ?_;refine Z161 ?_;refine Z127 ?_;refine Z144 ?_
   refine sv rfl (Yld_pure rfl (oR rfl) q_max) ?_
   refine Z1 ?_;refine Z124 ?_;refine Z179 ?_
   refine hn0 _ (z + 1, c + k.size, if k.depth > e then k.depth else e) ⟨by show z + 1 ≤ ks.length; omega, by show 1 ≤ c + (k.size : Int); omega, by show c + (k.size : Int) + (Tr.sizes (ks.drop (z + 1)) : Nat) = 1 + (Tr.sizes ks : Nat); omega, by show 0 ≤ (if k.depth > e then k.depth else e); split <;> omega, by show (if k.depth > e then k.depth else e) ≤ _; split <;> omega, by show Tr.deeps (ks.drop (z + 1)) _ = _; rw [← Tr.deeps_drop hk e]; exact hc5⟩ (by show ks.length - (z + 1) < ks.length - z; omega) le_of
  have hge : z = ks.length := by
   have : ¬ (z : Int) < (ks.map Tr.d).length := by simpa using hb0
   rw [List.length_map] at this
   omega
  have hdd := Tr.deeps_bd ks 0
  refine Z164 ?_
  subst hge
  rw [List.drop_length] at hc2 hc5
  rw [Tr.deeps] at hc5
  rw [Tr.sizes] at hc2
  refine Z144 ?_;refine Z161 ?_;refine Z131 ?_;refine Z87 ?_
  exact ⟨by rw [Tr.size, Tr.depth, ← hc5]; congr 5; omega, rfl⟩
def methR (nm : ByteArray) : Int × ByteArray × ByteArray := match opTab.find? (fun x => decide (x.1 = nm)) with
 | some x => (x.2.2.2, x.2.1, x.2.2.1)
 | none => (-1, ⟨#[]⟩, ⟨#[]⟩)
theorem find3 {P : Program} {t u v : Nat} {p q r : PV} {d x y : D} {s : GS} {R : PV → List (List PV) → Prop} {e : Exit} (he : e = .normal ∨ e = .ret) (hR : R (.tup [.d d, .d x, .d y]) []) (hs : s.get t = some p := by exact J0) (hq : p.toD = some d := by exact J9)
 (hs' : s.get u = some q := by exact J0) (hq' : q.toD = some x := by exact J9) (hs2 : s.get v = some r := by exact J0) (hq2 : r.toD = some y := by exact J9) :
 Fin P [.tmp t, .tmp u, .tmp v] 0 R e s := ⟨he, .inl ⟨[.d d, .d x, .d y], [], .cons (.dat hs hq) (.cons (.dat hs' hq') (.cons (.dat hs2 hq2) .nil)), Nat.le_refl _, .nil, rfl, hR⟩⟩
theorem pre_q (s : ByteArray) : preB s qmB = (decide ((s.size : Int) > 0) && ((s[0]!).toNat : Int) == 63) := by
 obtain ⟨⟨l⟩⟩ := s
 cases l with
 | nil => rfl
 | cons c r =>
  have h0 : (⟨⟨c :: r⟩⟩ : ByteArray)[0]! = c := by_get (z := 0) rfl
  have h1 : (⟨⟨c :: r⟩⟩ : ByteArray).size = r.length + 1 := rfl
  have h2 : (⟨⟨c :: r⟩⟩ : ByteArray).extract 0 1 = ⟨#[c]⟩ := by
   apply ByteArray.ext
   rw [ByteArray.data_extract]
   simp
  unfold preB
  rw [h0, h1, show qmB.size = 1 from rfl, h2]
  have h3 : decide ((⟨#[c]⟩ : ByteArray) = qmB) = ((c.toNat : Int) == 63) := by
   rw [Bool.eq_iff_iff, decide_eq_true_eq, beq_iff_eq]
   constructor
   · intro h; injection h with h; injection h with h; injection h with h _; rw [h]; rfl
   · intro h
     have h4 : c = 63 := UInt8.toNat_inj.1 (by show c.toNat = 63; omega)
     rw [h4]; rfl
  rw [h3, decide_eq_true (by omega : ((r.length + 1 : Nat) : Int) ≥ (1 : Nat)), decide_eq_true (by omega : ((r.length + 1 : Nat) : Int) > 0)]
variable {z : Nat} {c : UInt8}
theorem get_by {s : ByteArray} (h : s.data.toList[z]? = some c) : s.get! z = c := by
 obtain ⟨hlt, he⟩ := List.getElem?_eq_some_iff.1 h
 have hd : z < s.data.size := by simpa using hlt
 show s.data[z]! = c
 rw [getElem!_pos s.data z hd, ← he]; rfl
theorem decode_lo {s : ByteArray} (h : s.data.toList[z]? = some c) (hlt : c.toNat < 128) : Utf8.decode s z = (c.toNat, 1) := by
 have hg := get_by h
 unfold Utf8.decode
 simp only [Nat.add_zero, hg, hlt, if_true]
theorem decode_hi {s : ByteArray} (h : s.data.toList[z]? = some c) (hge : ¬ c.toNat < 128) : 128 ≤ (Utf8.decode s z).1 := by
 have hg := get_by h
 unfold Utf8.decode
 simp only [Nat.add_zero, hg, hge, if_false]
 repeat' split
 all_goals first | (simp only [Utf8.runeError]; omega) | (dsimp only; omega) | (simp only [Bool.and_eq_true, decide_eq_true_eq] at *; omega)
theorem and_facts {n : Int} (h0 : ¬ n < 0) (h1 : ¬ n > 15) : (andI n 3 == 0) = (n.tmod 4 == 0) ∧ (andI n 1 != 0) = (n.tmod 2 == 1) ∧ (andI n 2 != 0) = ((W (n.tdiv 2)).tmod 2 == 1) := by
 have h : n = 0 ∨ n = 1 ∨ n = 2 ∨ n = 3 ∨ n = 4 ∨ n = 5 ∨ n = 6 ∨ n = 7 ∨ n = 8 ∨ n = 9 ∨ n = 10 ∨ n = 11 ∨ n = 12 ∨ n = 13 ∨ n = 14 ∨ n = 15 := by omega
 rcases h with rfl | rfl | rfl | rfl | rfl | rfl | rfl | rfl | rfl | rfl | rfl | rfl | rfl | rfl | rfl | rfl <;> exact ⟨rfl, rfl, rfl⟩
set_option maxHeartbeats 4000000 in
theorem c228 (nm : ByteArray) : Pf Tryz.prog 228 [.str nm] (.tup [.d (.int .i64 (methR nm).1), .d (.str (methR nm).2.1), .d (.str (methR nm).2.2)]) := by
 refine pf_body (rvs := [.tmp 2, .tmp 3, .tmp 4]) [(0, .d (.str nm))] Tryz.func228 Tryz.ntmps228 Tryz.results228 (fun S0 O0 w0 m0 hm0 => ?_)
 refine Z5 ?_;refine Z162 ?_;refine Z189 ?_
 refine gN (tN (G_block (zgS (zgS (gR ?_)))))
 refine Z180 ?_
 refine zgC ?_ ?_ <;> intro hb0
 ·
  refine Z77 ?_
  refine zgC ?_ ?_ <;> intro hb1
  ·
   refine Z193 ?_
   exact ⟨by rw [oR hb0]; rfl, rfl⟩
  exact absurd (hb0.symm.trans hb1) (by decide)
 refine Z5 ?_;refine Z180 ?_
 refine zgC ?_ ?_ <;> intro hb2
 ·
  refine Z77 ?_
  refine zgC ?_ ?_ <;> intro hb3
  ·
   refine Z193 ?_
   exact ⟨by rw [oR hb2]; rfl, rfl⟩
  exact absurd (hb2.symm.trans hb3) (by decide)
 refine Z17 ?_;refine Z180 ?_
 refine zgC ?_ ?_ <;> intro hb4
 ·
  refine Z193 ?_
  exact ⟨by rw [oR hb4]; rfl, rfl⟩
 refine Z5 ?_;refine Z180 ?_
 refine zgC ?_ ?_ <;> intro hb5
 ·
  refine Z38 ?_;refine Z117 ?_;refine Z17 ?_;refine Z182 ?_
  exact ⟨by rw [oR hb5]; rfl, rfl⟩
 refine Z38 ?_;refine Z117 ?_;refine Z17 ?_;refine Z180 ?_
 refine zgC ?_ ?_ <;> intro hb6
 ·
  refine Z193 ?_
  exact ⟨by rw [oR hb6]; rfl, rfl⟩
 refine Z39 ?_;refine Z180 ?_
 refine zgC ?_ ?_ <;> intro hb7
 ·
  refine Z77 ?_
  refine zgC ?_ ?_ <;> intro hb8
  ·
   refine Z193 ?_
   exact ⟨by rw [oR hb7]; rfl, rfl⟩
  exact absurd (hb7.symm.trans hb8) (by decide)
 refine Z5 ?_;refine Z180 ?_
 refine zgC ?_ ?_ <;> intro hb9
 ·
  refine Z77 ?_
  refine zgC ?_ ?_ <;> intro hb10
  ·
   refine Z193 ?_
   exact ⟨by rw [oR hb9]; rfl, rfl⟩
  exact absurd (hb9.symm.trans hb10) (by decide)
 refine Z17 ?_;refine Z180 ?_
 refine zgC ?_ ?_ <;> intro hb11
 ·
  refine Z193 ?_
  exact ⟨by rw [oR hb11]; rfl, rfl⟩
 refine Z5 ?_;refine Z180 ?_
 refine zgC ?_ ?_ <;> intro hb12
 ·
  refine Z193 ?_
  exact ⟨by rw [oR hb12]; rfl, rfl⟩
 refine Z39 ?_;refine Z180 ?_
 refine zgC ?_ ?_ <;> intro hb13
 ·
  refine Z77 ?_
  refine zgC ?_ ?_ <;> intro hb14
  ·
   refine Z38 ?_;refine Z117 ?_;refine Z17 ?_;refine Z182 ?_
   exact ⟨by rw [oR hb13]; rfl, rfl⟩
  exact absurd (hb13.symm.trans hb14) (by decide)
 refine Z117 ?_;refine Z17 ?_;refine Z180 ?_
 refine zgC ?_ ?_ <;> intro hb15
 ·
  refine Z193 ?_
  exact ⟨by rw [oR hb15]; rfl, rfl⟩
 refine Z39 ?_;refine Z180 ?_
 refine zgC ?_ ?_ <;> intro hb16
 ·
  refine Z77 ?_
  refine zgC ?_ ?_ <;> intro hb17
  ·
   refine Z193 ?_
   exact ⟨by rw [oR hb16]; rfl, rfl⟩
  exact absurd (hb16.symm.trans hb17) (by decide)
 refine Z17 ?_;refine Z180 ?_
 refine zgC ?_ ?_ <;> intro hb18
 ·
  refine Z193 ?_
  exact ⟨by rw [oR hb18]; rfl, rfl⟩
 refine Z5 ?_;refine Z180 ?_
 refine zgC ?_ ?_ <;> intro hb19
 ·
  refine Z193 ?_
  exact ⟨by rw [oR hb19]; rfl, rfl⟩
 refine Z116 ?_;refine Z162 ?_;refine Z131 ?_
 have hnone : opTab.find? (fun x => decide (x.1 = nm)) = none := by
  rw [List.find?_eq_none]
  intro x hx
  simp only [opTab, List.mem_cons, List.not_mem_nil, or_false] at hx
  rcases hx with rfl | rfl | rfl | rfl | rfl | rfl | rfl | rfl | rfl | rfl | rfl | rfl | rfl | rfl <;> (simp only [decide_eq_true_eq]; intro e; subst e; simp at *)
 refine Z70 ?_
 exact ⟨by rw [methR, hnone], rfl⟩
set_option maxHeartbeats 1000000 in
theorem c175 (t : Tr) : Pf Tryz.prog 175 [t.d] (.d (.bool (typedB t))) := by
 obtain ⟨op, name, num, ks⟩ := t
 rw [Tr.d_mk]
 try simp only [Tr.op_mk, Tr.nm_mk, Tr.nu_mk, Tr.kids_mk]
 refine pf_body (rvs := [.tmp 2]) [(0, .d (.agg [.int .i64 op, .str name, .int .i64 num, .sl (ks.map Tr.d)]))] Tryz.func175 Tryz.ntmps175 Tryz.results175 (fun S0 O0 w0 m0 hm0 => ?_)
 refine Z186 ?_;refine Z137 ?_;refine Z84 ?_;refine Z147 ?_;refine Z112 ?_
 refine sg rfl (fun hg => sP 8 rfl hg q_neq) ?_
 refine Z22 ?_;refine Z166 ?_
 refine sg rfl (fun hg => sP 12 rfl hg (qL u22)) ?_
 refine sg rfl (fun hg => sP 13 rfl hg (q_len u22)) ?_
 refine sg rfl (fun hg => sP 14 rfl hg q_gtr) ?_
 refine Z152 ?_
 refine zgC ?_ ?_ <;> intro hb0
 ·
  refine Z38 ?_;refine Z122 ?_;refine Z17 ?_;refine Z151 ?_
  exact ⟨by rw [typedB, show ((op == 30 && num == 0) && (ks.length : Int) == 0) = false from by (simp only [Bool.or_eq_true, bne_iff_ne, decide_eq_true_eq, List.length_map] at hb0; rw [Bool.eq_false_iff]; intro h; simp only [Bool.and_eq_true, beq_iff_eq, decide_eq_true_eq] at h; omega)]; rfl, rfl⟩
 have hp := pre_q name
 refine Z96 ?_;refine Z122 ?_;refine Z17 ?_;refine Z150 ?_;refine Z64 ?_;refine Z88 ?_;refine Z2 ?_;refine Z51 ?_
 refine sg rfl (fun hg => sP 22 rfl hg (qL u9)) ?_
 refine sg rfl (fun hg => sP 23 rfl hg (q_strindex u9 (h0 := by decide) (h1 := by simp at hg; omega))) ?_
 refine sg rfl (fun hg => sP 24 rfl hg q_eql) ?_
 refine Z11 ?_;refine Z9 ?_
 refine zgC ?_ ?_ <;> intro hb1
 ·
  have hpt : preB name qmB = true := by rw [hp]; exact hb1
  have hle : (qmB.size : Int) ≤ name.size := by
   unfold preB at hpt
   rw [Bool.and_eq_true, decide_eq_true_eq] at hpt
   exact hpt.1
  refine Z5 ?_;refine Z150 ?_
  refine vq rfl ((q_strl u9 (h1 := by exact hle))) ?_
  refine gL (xs := [.tmp 29]) rfl (c174 _) ?_
  refine Z151 ?_
  exact ⟨by rw [typedB, show ((op == 30 && num == 0) && (ks.length : Int) == 0) = true from by (simp only [Bool.or_eq_false_iff, bne_eq_false_iff_eq, decide_eq_false_iff_not, List.length_map] at hb0; simp only [Bool.and_eq_true, beq_iff_eq, decide_eq_true_eq]; omega), trimB, if_pos hpt]; rfl, rfl⟩
 have hpf : preB name qmB = false := by rw [hp]; exact hb1
 refine Z120 ?_;refine Z150 ?_
 refine gL (xs := [.tmp 32]) rfl (c174 name) ?_
 refine Z133 ?_
 exact ⟨by rw [typedB, show ((op == 30 && num == 0) && (ks.length : Int) == 0) = true from by (simp only [Bool.or_eq_false_iff, bne_eq_false_iff_eq, decide_eq_false_iff_not, List.length_map] at hb0; simp only [Bool.and_eq_true, beq_iff_eq, decide_eq_true_eq]; omega), trimB, if_neg (by rw [hpf]; decide)]; rfl, rfl⟩
def textR : Tr → Bool
 | .mk _ name num ks => ((num == 0 && (ks.length : Int) == 0) && decide ((name.size : Int) ≤ 200)) && plainTx name
set_option maxHeartbeats 1000000 in
theorem c236 (t : Tr) : Pf Tryz.prog 236 [t.d] (.d (.bool (textR t))) := by
 obtain ⟨op, name, num, ks⟩ := t
 rw [Tr.d_mk]
 try simp only [Tr.op_mk, Tr.nm_mk, Tr.nu_mk, Tr.kids_mk]
 refine pf_body (rvs := [.tmp 2]) [(0, .d (.agg [.int .i64 op, .str name, .int .i64 num, .sl (ks.map Tr.d)]))] Tryz.func236 Tryz.ntmps236 Tryz.results236 (fun S0 O0 w0 m0 hm0 => ?_)
 refine Z186 ?_;refine Z137 ?_;refine Z84 ?_;refine Z166 ?_
 refine sg rfl (fun hg => sP 8 rfl hg (qL u22)) ?_
 refine sg rfl (fun hg => sP 9 rfl hg (q_len u22)) ?_
 refine sg rfl (fun hg => sP 10 rfl hg q_gtr) ?_
 refine Z22 ?_;refine Z2 ?_;refine Z51 ?_
 refine sg rfl (fun hg => sP 14 rfl hg (qL u9)) ?_
 refine sg rfl (fun hg => sP 15 rfl hg (q_lenstr u9)) ?_
 refine sg rfl (fun hg => sP 16 rfl hg q_gtr) ?_
 refine Z152 ?_
 refine zgC ?_ ?_ <;> intro hb0
 ·
  refine Z176 ?_;refine Z151 ?_
  exact ⟨by rw [textR, show ((num == 0 && (ks.length : Int) == 0) && decide ((name.size : Int) ≤ 200)) = false from by (simp only [Bool.or_eq_true, bne_iff_ne, decide_eq_true_eq, List.length_map] at hb0; rw [Bool.eq_false_iff]; intro h; simp only [Bool.and_eq_true, beq_iff_eq, decide_eq_true_eq] at h; omega)]; rfl, rfl⟩
 have hn2 : (name.size : Int) ≤ 200 := by
  simp only [Bool.or_eq_false_iff, decide_eq_false_iff_not] at hb0
  omega
 refine Z96 ?_;refine Z155 ?_;refine Z198 ?_
 refine g_loop (α := Nat) (fun z => ⟨[(3, .d (.int .i64 (z : Nat))), (1, .d (.ptr (.agg [.int .i64 op, .str name, .int .i64 num, .sl (ks.map Tr.d)])))], []⟩) (fun z => name.size - z) (fun z => z ≤ name.size ∧ idxRune badR name z = idxRune badR name 0) 0 ⟨Nat.zero_le _, rfl⟩ (fun z hz Q' hn0 he0 hr0 => ?_) (le_of)
 obtain ⟨hz1, hz2⟩ := hz
 refine Z196 ?_;refine Z150 ?_;refine Z64 ?_;refine Z192 ?_
 refine zgC ?_ ?_ <;> intro hb1
 ·
  have hlt : z < name.size := by
   have : (z : Int) < (name.size : Nat) := by simpa using hb1
   omega
  obtain ⟨c, hc⟩ : ∃ c, name.data.toList[z]? = some c := ⟨_, gE (by rw [bytes_len]; exact hlt)⟩
  have hcc := by_get hc
  refine Z24 ?_;refine Z150 ?_;refine Z2 ?_
  refine vq rfl ((q_strindex u9)) ?_
  refine Z44 ?_;refine Z2 ?_;refine Z51 ?_
  refine sg rfl (fun hg => sP 32 rfl hg (qL u9)) ?_
  refine Z18 ?_
  refine sg rfl (fun hg => sP 34 rfl hg (sP 33 rfl hg (q_strindex u9))) ?_
  refine sg rfl (fun hg => sP 35 rfl hg q_gtr) ?_
  refine Z152 ?_
  refine zgC ?_ ?_ <;> intro hb2
  ·
   have hbr : badR (Utf8.decode name z).1 = true := by
    simp only [Int.toNat_natCast, hcc] at hb2
    by_cases h8 : c.toNat < 128
    · rw [decode_lo hc h8]; exact hb2
    · have := decode_hi hc h8
      unfold badR; rw [Bool.or_eq_true, decide_eq_true_eq, decide_eq_true_eq]; omega
   refine Z176 ?_;refine Z190 ?_;refine Z4 ?_
   exact ⟨by rw [textR, show ((num == 0 && (ks.length : Int) == 0) && decide ((name.size : Int) ≤ 200)) = true from by (simp only [Bool.or_eq_false_iff, bne_eq_false_iff_eq, decide_eq_false_iff_not, List.length_map] at hb0; simp only [Bool.and_eq_true, beq_iff_eq, decide_eq_true_eq]; omega), plainTx, ← hz2, idxRune_hit hlt hbr, decide_eq_true (by omega)]; rfl, rfl⟩
  have hb2' := hb2
  simp only [Int.toNat_natCast, hcc] at hb2'
  have hbr : badR ((c.toNat : Nat) : Int) = false := hb2'
  have h8 : c.toNat < 128 := by unfold badR at hbr; rw [Bool.or_eq_false_iff, decide_eq_false_iff_not, decide_eq_false_iff_not] at hbr; omega
  have hdc := decode_lo hc h8
  refine Z103 ?_;refine Z155 ?_;refine Z179 ?_
  refine hn0 _ (z + 1) ⟨by omega, by rw [← hz2]; have h := idxRune_miss (p := badR) hlt (by rw [hdc]; exact hbr); rw [hdc] at h; exact h⟩ (by omega) le_of
 have hge : ¬ z < name.size := by
  have : ¬ (z : Int) < (name.size : Nat) := by simpa using hb1
  omega
 refine Z164 ?_;refine Z133 ?_
 exact ⟨by rw [textR, show ((num == 0 && (ks.length : Int) == 0) && decide ((name.size : Int) ≤ 200)) = true from by (simp only [Bool.or_eq_false_iff, bne_eq_false_iff_eq, decide_eq_false_iff_not, List.length_map] at hb0; simp only [Bool.and_eq_true, beq_iff_eq, decide_eq_true_eq]; omega), plainTx, ← hz2, idxRune_end hge, decide_eq_false (by omega)]; rfl, rfl⟩
end
section
variable {num : Int}
theorem tail_some {l : List Tr} (h : (andI num 2 != 0) = true) : varTail num l = match l with | [] => false | k :: r => isExprB k.op && (r.length : Int) == 0 := by
 unfold varTail; rw [if_pos h]; cases l <;> rfl
theorem tail_none {l : List Tr} (h : (andI num 2 != 0) = false) : varTail num l = ((l.length : Int) == 0) := by
 unfold varTail; rw [if_neg (by rw [h]; decide)]
variable {ks : List Tr} {n : Nat}
theorem drop_kid (h : n < ks.length) : ∃ k r, ks.drop n = k :: r ∧ ks[n]? = some k ∧ r.length + n + 1 = ks.length := by
 refine ⟨ks[n], ks.drop (n + 1), List.drop_eq_getElem_cons h, gE h, ?_⟩
 rw [List.length_drop]; omega
set_option maxHeartbeats 4000000 in
theorem c288 (t : Tr) (hok : t.Ok) : Pf Tryz.prog 288 [t.d] (.d (.bool (varB t))) := by
 obtain ⟨op, name, num, ks⟩ := t
 rw [Tr.d_mk]
 try simp only [Tr.op_mk, Tr.nm_mk, Tr.nu_mk, Tr.kids_mk]
 cases hok with | mk h1 h2 h3 h4 h5 =>
 refine pf_body (rvs := [.tmp 2]) [(0, .d (.agg [.int .i64 op, .str name, .int .i64 num, .sl (ks.map Tr.d)]))] Tryz.func288 Tryz.ntmps288 Tryz.results288 (fun S0 O0 w0 m0 hm0 => ?_)
 refine Z186 ?_;refine Z150 ?_
 refine gL (xs := [.tmp 5]) rfl (c174 name) ?_
 refine Z54 ?_;refine Z147 ?_;refine Z113 ?_
 refine sg rfl (fun hg => sP 10 rfl hg q_lss) ?_
 refine Z22 ?_;refine Z147 ?_
 refine sg rfl (fun hg => sP 14 rfl hg (qL u3)) ?_
 refine sg rfl (fun hg => sP 15 rfl hg q_gtr) ?_
 refine Z22 ?_;refine Z147 ?_;refine Z110 ?_
 refine sg rfl (fun hg => sP 20 rfl hg (q_rem (show (4 : Int) ≠ 0 by decide) rfl)) ?_
 refine sg rfl (fun hg => sP 21 rfl hg q_eql) ?_
 refine Z152 ?_
 refine zgC ?_ ?_ <;> intro hb0
 ·
  have hv0 : varB (.mk op name num ks) = false := by
   rw [varB]
   by_cases h0 : num < 0
   · rw [if_pos (by rw [decide_eq_true h0]; simp)]
   · by_cases h1 : num > 15
     · rw [if_pos (by rw [decide_eq_true h1]; simp)]
     · rw [if_pos (by rw [(and_facts h0 h1).1]; exact hb0)]
  refine Z176 ?_;refine Z151 ?_
  exact ⟨by rw [hv0], rfl⟩
 have hnn := hb0
 simp only [Bool.or_eq_false_iff, decide_eq_false_iff_not] at hnn
 obtain ⟨a3, a1, a2⟩ := and_facts (n := num) hnn.1.1.2 hnn.1.2
 have hv0 : (((!nameB name || decide (num < 0)) || decide (num > 15)) || andI num 3 == 0) = false := by rw [a3]; exact hb0
 refine Z94 ?_;refine Z155 ?_;refine Z132 ?_
 refine G_seq_cut (α := Nat) (fun n => ⟨[(1, .d (.ptr (.agg [.int .i64 op, .str name, .int .i64 num, .sl (ks.map Tr.d)]))), (3, .d (.int .i64 (n : Nat)))], []⟩) (fun n => varB (.mk op name num ks) = varTail num (ks.drop n) ∧ n ≤ ks.length ∧ n ≤ 1) (fun Q' hn he hr => ?_) (fun n hn => ?_)
 ·
  refine Z195 ?_
  refine vq rfl (q_rem (show (2 : Int) ≠ 0 by decide) rfl) ?_
  refine Z15 ?_;refine Z9 ?_
  refine zgC ?_ ?_ <;> intro hb1
  ·
   refine Z39 ?_;refine Z165 ?_;refine Z44 ?_;refine Z2 ?_
   refine g_split 32 false (fun hsp => ?_) (fun hsp => ?_)
   ·
    have h1l : 0 < ks.length := by simp at hsp; omega
    obtain ⟨k, r, hdr, hk, hrl⟩ := drop_kid (ks := ks) (n := 0) (by omega)
    obtain ⟨kop, knm, knu, kks, hke⟩ : ∃ op nm nu ks', k = .mk op nm nu ks' := by cases k; exact ⟨_, _, _, _, rfl⟩
    subst hke
    have hxa := Tr.ds_get hk
    rw [Tr.d_mk] at hxa
    refine Z86 ?_;refine Z97 ?_;refine Z75 ?_;refine Z71 ?_;refine Z79 ?_;refine Z123 ?_;refine Z72 ?_;refine Z19 ?_
    refine sg rfl (fun hg => sP 40 rfl hg (qL u22)) ?_
    refine sg rfl (fun hg => sP 41 rfl hg (qI u22 sz27)) ?_
    refine sg rfl (fun hg => sP 42 rfl hg (qF u27 rfl sz9)) ?_
    refine sg rfl (fun hg => sP 43 rfl hg (qL u9)) ?_
    refine sg rfl (fun hg => sP 44 rfl hg q_strne) ?_
    refine sgo rfl hsp y_and ?_
    refine Z72 ?_;refine Z19 ?_
    refine sg rfl (fun hg => sP 48 rfl hg (qL u22)) ?_
    refine sg rfl (fun hg => sP 49 rfl hg (qI u22 sz27)) ?_
    refine sg rfl (fun hg => sP 50 rfl hg (qF u27 rfl sz3)) ?_
    refine sg rfl (fun hg => sP 51 rfl hg (qL u3)) ?_
    refine sg rfl (fun hg => sP 52 rfl hg q_eql) ?_
    refine Z126 ?_
    refine sgo rfl hsp y_not ?_
    refine Z152 ?_
    refine zgC ?_ ?_ <;> intro hb2
    ·
     have hbad : varTy num ks = false := by
      rw [show ks = Tr.mk kop knm knu kks :: r from hdr, varTy, varType]
      rw [show (Tr.mk kop knm knu kks).op = kop from rfl, show (Tr.mk kop knm knu kks).nm = knm from rfl]
      have h0 : ¬ (ks.length : Int) < 1 := by omega
      simp only [List.length_map, decide_eq_false h0, Bool.false_or] at hb2
      replace hb2 : (!(kop == 30 && !decide (knm = voidB) || kop == 31)) = true := hb2
      show (!(!(kop == 31) && (!(kop == 30) || decide (knm = voidB))) && _) = _
      revert hb2
      cases (kop == 30) <;> cases (kop == 31) <;> cases decide (knm = voidB) <;> intro hb2 <;> first | rfl | cases hb2
     refine Z176 ?_;refine Z141 ?_;refine Z128 ?_;refine Z4 ?_
     exact ⟨by rw [varB, if_neg (by rw [hv0]; decide), if_pos (by rw [a1]; exact hb1), hbad], rfl⟩
    have hgood : varTy num ks = varTail num r := by
     rw [show ks = Tr.mk kop knm knu kks :: r from hdr, varTy, varType]
     rw [show (Tr.mk kop knm knu kks).op = kop from rfl, show (Tr.mk kop knm knu kks).nm = knm from rfl]
     have h0 : ¬ (ks.length : Int) < 1 := by omega
     simp only [List.length_map, decide_eq_false h0, Bool.false_or] at hb2
     replace hb2 : (!(kop == 30 && !decide (knm = voidB) || kop == 31)) = false := hb2
     show (!(!(kop == 31) && (!(kop == 30) || decide (knm = voidB))) && _) = _
     revert hb2
     cases (kop == 30) <;> cases (kop == 31) <;> cases decide (knm = voidB) <;> intro hb2 <;> first | rfl | cases hb2
    refine Z77 ?_;refine Z155 ?_;refine Z179 ?_
    refine hn _ 1 ⟨by rw [varB, if_neg (by rw [hv0]; decide), if_pos (by rw [a1]; exact hb1), hgood, show r = ks.drop 1 from by rw [show ks = Tr.mk kop knm knu kks :: r from hdr]; rfl], by omega, by omega⟩ le_of
   skip
   refine Z154 ?_;refine Z154 ?_;refine Z154 ?_;refine Z154 ?_;refine Z154 ?_;refine Z135 ?_;refine Z0 ?_;refine Z152 ?_
   refine zgC ?_ ?_ <;> intro hb3
   ·
    have hnil : varTy num ks = false := by
     have h0 : ks = [] := by
      cases ks with
      | nil => rfl
      | cons k r => exfalso; simp at hsp; omega
     rw [h0]; rfl
    refine Z176 ?_;refine Z141 ?_;refine Z128 ?_;refine Z4 ?_
    exact ⟨by rw [varB, if_neg (by rw [hv0]; decide), if_pos (by rw [a1]; exact hb1), hnil], rfl⟩
   exfalso
   have h0 : decide (((ks.map Tr.d).length : Int) < 1) = true := by simpa using hsp
   rw [h0] at hb3
   exact absurd hb3 (by rw [Bool.true_or]; decide)
  refine gK ?_
  refine hn _ 0 ⟨by rw [varB, if_neg (by rw [hv0]; decide), if_neg (by rw [a1, hb1]; decide)]; rfl, by omega, by omega⟩ le_of
 obtain ⟨hn1, hn2, hn3⟩ := hn
 refine G_seq_cut (α := Nat) (fun m => ⟨[(1, .d (.ptr (.agg [.int .i64 op, .str name, .int .i64 num, .sl (ks.map Tr.d)]))), (3, .d (.int .i64 (m : Nat)))], []⟩) (fun m => varB (.mk op name num ks) = ((ks.length : Int) == ((m : Nat) : Int))) (fun Q' hn he hr => ?_) (fun m hm => ?_)
 ·
  refine Z195 ?_
  refine vq rfl (q_quo (show (2 : Int) ≠ 0 by decide) rfl) ?_
  refine vq rfl (q_rem (show (2 : Int) ≠ 0 by decide) rfl) ?_
  refine Z15 ?_;refine Z9 ?_
  refine zgC ?_ ?_ <;> intro hb4
  ·
   refine Z39 ?_;refine Z165 ?_;refine Z2 ?_;refine Z25 ?_;refine Z44 ?_;refine Z2 ?_
   refine g_split 70 false (fun hsp => ?_) (fun hsp => ?_)
   ·
    have h1l : n < ks.length := by simp at hsp; omega
    obtain ⟨k, r, hdr, hk, hrl⟩ := drop_kid (ks := ks) (n := n) (by omega)
    obtain ⟨kop, knm, knu, kks, hke⟩ : ∃ op nm nu ks', k = .mk op nm nu ks' := by cases k; exact ⟨_, _, _, _, rfl⟩
    subst hke
    have hxa := Tr.ds_get hk
    rw [Tr.d_mk] at hxa
    refine Z86 ?_;refine Z97 ?_;refine Z72 ?_;refine Z75 ?_;refine Z71 ?_;refine Z79 ?_
    refine g_callo (xs := [.tmp 76]) rfl hsp (c81 _) ?_
    refine sgo rfl hsp y_not ?_
    refine Z152 ?_
    refine zgC ?_ ?_ <;> intro hb5
    ·
     have hx : varTail num (ks.drop n) = false := by
      rw [tail_some (by rw [a2]; exact hb4), hdr]
      have h0 : ¬ (ks.length : Int) < ((n + 1 : Nat) : Int) := by omega
      simp only [List.length_map, decide_eq_false h0, Bool.false_or, Bool.not_eq_true'] at hb5
      show (isExprB kop && _) = false
      rw [hb5, Bool.false_and]
     refine Z176 ?_;refine Z141 ?_;refine Z128 ?_;refine Z4 ?_
     exact ⟨by rw [hn1, hx], rfl⟩
    have hx : varTail num (ks.drop n) = ((ks.length : Int) == ((n + 1 : Nat) : Int)) := by
     rw [tail_some (by rw [a2]; exact hb4), hdr]
     have h0 : ¬ (ks.length : Int) < ((n + 1 : Nat) : Int) := by omega
     simp only [List.length_map, decide_eq_false h0, Bool.false_or, Bool.not_eq_false'] at hb5
     show (isExprB kop && _) = _
     rw [hb5, Bool.true_and, Bool.eq_iff_iff, beq_iff_eq, beq_iff_eq]
     omega
    refine Z77 ?_;refine Z155 ?_;refine Z179 ?_
    refine hn _ (n + 1) (by rw [hn1, hx]) le_of
   skip
   refine Z154 ?_;refine Z154 ?_;refine Z152 ?_
   refine zgC ?_ ?_ <;> intro hb6
   ·
    have hx : varTail num (ks.drop n) = false := by
     have h0 : ks.drop n = [] := by
      rw [List.drop_eq_nil_iff]; simp at hsp; omega
     rw [tail_some (by rw [a2]; exact hb4), h0]
    refine Z176 ?_;refine Z141 ?_;refine Z128 ?_;refine Z4 ?_
    exact ⟨by rw [hn1, hx], rfl⟩
   exfalso
   have h0 : decide (((ks.map Tr.d).length : Int) < ((n + 1 : Nat) : Int)) = true := by simpa using hsp
   rw [h0] at hb6
   exact absurd hb6 (by rw [Bool.true_or]; decide)
  refine gK ?_
  refine hn _ n (by rw [hn1, tail_none (by rw [a2]; exact hb4), List.length_drop, Bool.eq_iff_iff, beq_iff_eq, beq_iff_eq]; omega) le_of
 skip
 refine Z5 ?_;refine Z165 ?_;refine Z2 ?_;refine Z15 ?_;refine Z133 ?_
 exact ⟨by rw [hm, List.length_map], rfl⟩
def loopV (op num : Int) (ks : List Tr) : Bool :=
 (((ks.take num.toNat).all fun k => k.op == 4) && (isExprB (opK num.toNat ks) && opK (num.toNat + 1) ks == 66)) && (ks.drop (num.toNat + 2)).all fun k => op == 55 && k.op == 67
def loopRB : Tr → Bool
 | .mk op name num ks => decide (name = ⟨#[]⟩) && rule157 (.mk op name num ks)
theorem loop_rest (op : Int) (l : List Tr) : (((l.length : Int) == 0) || (op == 55 && everyB (fun o => o == 67) l)) = l.all fun k => op == 55 && k.op == 67 := by
 cases l with
 | nil => rfl
 | cons k r =>
  rw [show ((((k :: r).length : Nat) : Int) == 0) = false from by rw [beq_eq_false_iff_ne, List.length_cons]; omega, Bool.false_or]
  unfold everyB
  cases op == 55 with
  | true => simp only [Bool.true_and]; rw [Bool.eq_iff_iff, Bool.not_eq_true', List.any_eq_false, List.all_eq_true]; simp
  | false => simp
theorem kids3 (k0 k1 k2 : Tr) : kidsB [k0, k1, k2] (nn.extract 0 1 ++ eb) = (k0.op == 4 && (isExprB k1.op && k2.op == 66)) := by
 rw [show nn.extract 0 1 ++ eb = ⟨#[110, 101, 98]⟩ from rfl]
 unfold kidsB
 show (true && (kindOk 110 k0.op && (kindOk 101 k1.op && (kindOk 98 k2.op && true)))) = _
 rw [Bool.true_and, Bool.and_true]; rfl
theorem kids4 (k0 k1 k2 k3 : Tr) : kidsB [k0, k1, k2, k3] (nn.extract 0 2 ++ eb) = ((k0.op == 4 && k1.op == 4) && (isExprB k2.op && k3.op == 66)) := by
 rw [show nn.extract 0 2 ++ eb = ⟨#[110, 110, 101, 98]⟩ from rfl]
 unfold kidsB
 show (true && (kindOk 110 k0.op && (kindOk 110 k1.op && (kindOk 101 k2.op && (kindOk 98 k3.op && true))))) = _
 rw [Bool.true_and, Bool.and_true, Bool.and_assoc]; rfl
theorem loop_eq {op : Int} {name : ByteArray} (h : num = 1 ∨ num = 2) (hl : num + 2 ≤ (ks.length : Int)) : rule157 (.mk op name num ks) = loopV op num ks := by
 rw [rule157, if_pos ⟨h, hl⟩, loop_rest]
 unfold loopV
 rcases h with rfl | rfl
 · match ks, hl with
   | k0 :: k1 :: k2 :: r, _ =>
    show (kidsB [k0, k1, k2] (nn.extract 0 1 ++ eb) && _) = _
    rw [kids3]
    show _ = (((k0.op == 4 && true) && (isExprB k1.op && k2.op == 66)) && _)
    rw [Bool.and_true]; rfl
   | [], h => simp at h
   | [_], h => simp at h
   | [_, _], h => simp at h
 · match ks, hl with
   | k0 :: k1 :: k2 :: k3 :: r, _ =>
    show (kidsB [k0, k1, k2, k3] (nn.extract 0 2 ++ eb) && _) = _
    rw [kids4]
    show _ = (((k0.op == 4 && (k1.op == 4 && true)) && (isExprB k2.op && k3.op == 66)) && _)
    rw [Bool.and_true]; rfl
   | [], h => simp at h
   | [_], h => simp at h
   | [_, _], h => simp at h
   | [_, _, _], h => simp at h
theorem loop_no {op : Int} {name : ByteArray} (h : ¬ ((num = 1 ∨ num = 2) ∧ num + 2 ≤ (ks.length : Int))) : rule157 (.mk op name num ks) = false := by
 rw [rule157, if_neg h]
variable {i : Nat} {k : Tr}
theorem opK_get (h : ks[i]? = some k) : opK i ks = k.op := by unfold opK; rw [h]
variable {p : Tr → Bool}
theorem all_no (h : ks[i]? = some k) (hi : i < n) (hp : p k = false) : (ks.take n).all p = false := by
 rw [List.all_eq_false]
 refine ⟨k, ?_, by rw [hp]; decide⟩
 exact mG (show (ks.take n)[i]? = some k by rw [List.getElem?_take_of_lt hi]; exact h)
theorem all_yes (h : ∀ i, i < n → ∀ k, ks[i]? = some k → p k = true) : (ks.take n).all p = true := by
 rw [List.all_eq_true]
 intro k hk
 obtain ⟨i, hi⟩ := List.getElem?_of_mem hk
 rw [List.getElem?_take] at hi
 split at hi
 · rename_i hlt; exact h i hlt k hi
 · cases hi
theorem drop_no (h : ks[i]? = some k) (hi : n ≤ i) (hp : p k = false) : (ks.drop n).all p = false := by
 rw [List.all_eq_false]
 refine ⟨k, mG (i := i - n) ?_, by rw [hp]; decide⟩
 rw [List.getElem?_drop, show n + (i - n) = i from by omega]; exact h
theorem drop_yes (h : ∀ i, n ≤ i → ∀ k, ks[i]? = some k → p k = true) : (ks.drop n).all p = true := by
 rw [List.all_eq_true]
 intro k hk
 obtain ⟨i, hi⟩ := List.getElem?_of_mem hk
 rw [List.getElem?_drop] at hi
 exact h _ (by omega) k hi
set_option maxHeartbeats 4000000 in
theorem c289 (t : Tr) (hok : t.Ok) : Pf Tryz.prog 289 [t.d] (.d (.bool (loopRB t))) := by
 obtain ⟨op, name, num, ks⟩ := t
 rw [Tr.d_mk]
 try simp only [Tr.op_mk, Tr.nm_mk, Tr.nu_mk, Tr.kids_mk]
 cases hok with | mk h1 h2 h3 h4 h5 =>
 refine pf_body (rvs := [.tmp 2]) [(0, .d (.agg [.int .i64 op, .str name, .int .i64 num, .sl (ks.map Tr.d)]))] Tryz.func289 Tryz.ntmps289 Tryz.results289 (fun S0 O0 w0 m0 hm0 => ?_)
 refine Z186 ?_;refine Z150 ?_
 refine vq rfl q_strne ?_
 refine Z147 ?_;refine Z113 ?_;refine Z114 ?_
 refine sg rfl (fun hg => sP 11 rfl hg qM) ?_
 refine Z14 ?_
 refine sg rfl (fun hg => sP 13 rfl hg (qL u3)) ?_
 refine sg rfl (fun hg => sP 14 rfl hg q_neq) ?_
 refine sg rfl (fun hg => sP 12 rfl hg q_and) ?_
 refine Z22 ?_;refine Z166 ?_
 refine sg rfl (fun hg => sP 19 rfl hg (qL u22)) ?_
 refine sg rfl (fun hg => sP 20 rfl hg (q_len u22)) ?_
 refine Z14 ?_
 refine sg rfl (fun hg => sP 22 rfl hg (qL u3)) ?_
 refine sg rfl (fun hg => sP 23 rfl hg (q_add (hw := rfl))) ?_
 refine sg rfl (fun hg => sP 24 rfl hg (sP 21 rfl hg q_lss)) ?_
 refine Z152 ?_
 refine zgC ?_ ?_ <;> intro hb0
 ·
  have hno : loopRB (.mk op name num ks) = false := by
   rw [loopRB]
   by_cases hnm : name = ⟨#[]⟩
   · rw [loop_no, Bool.and_false]
     rintro ⟨h7, h8⟩
     simp only [Bool.or_eq_true, Bool.and_eq_true, Bool.not_eq_true', bne_iff_ne, decide_eq_true_eq, decide_eq_false_iff_not, List.length_map] at hb0
     rcases hb0 with (hb0 | hb0) | hb0
     · exact hb0 hnm
     · omega
     · rw [wrap_i64 (by omega) (by omega)] at hb0
       omega
   · rw [decide_eq_false hnm, Bool.false_and]
  refine Z38 ?_;refine Z175 ?_;refine Z151 ?_
  exact ⟨by rw [hno], rfl⟩
 have hnn : ((num = 1 ∨ num = 2) ∧ num + 2 ≤ (ks.length : Int)) ∧ decide (name = ⟨#[]⟩) = true := by
  simp only [Bool.or_eq_false_iff, Bool.and_eq_false_iff, Bool.not_eq_false', bne_eq_false_iff_eq, decide_eq_false_iff_not, List.length_map] at hb0
  obtain ⟨⟨h7, h9⟩, h8⟩ := hb0
  have h6 : num = 1 ∨ num = 2 := by omega
  rw [wrap_i64 (by omega) (by omega)] at h8
  exact ⟨⟨h6, by omega⟩, h7⟩
 obtain ⟨⟨hn1, hn2⟩, hnm⟩ := hnn
 have hn3 : 1 ≤ num ∧ num ≤ 2 := by omega
 have hlv : loopRB (.mk op name num ks) = loopV op num ks := by rw [loopRB, hnm, Bool.true_and, loop_eq hn1 hn2]
 refine Z96 ?_;refine Z175 ?_;refine Z198 ?_
 refine g_loop (α := Nat) (fun z => ⟨[(3, .d (.int .i64 (z : Nat))), (1, .d (.ptr (.agg [.int .i64 op, .str name, .int .i64 num, .sl (ks.map Tr.d)])))], []⟩) (fun z => num.toNat - z) (fun z => (z : Int) ≤ num ∧ ∀ i, i < z → ∀ k, ks[i]? = some k → (k.op == 4) = true) 0 ⟨by show (0 : Int) ≤ num; omega, by simp⟩ (fun z hz Q' hn0 he0 hr0 => ?_) (le_of)
 obtain ⟨hz1, hz2⟩ := hz
 refine Z196 ?_;refine Z137 ?_;refine Z192 ?_
 refine zgC ?_ ?_ <;> intro hb1
 ·
  have hlt : (z : Int) < num := by simpa using hb1
  obtain ⟨a, hka⟩ : ∃ k, ks[z]? = some k := ⟨_, gE (by omega)⟩
  obtain ⟨aop, anm, anu, aks, hke⟩ : ∃ op nm nu ks', a = .mk op nm nu ks' := by cases a; exact ⟨_, _, _, _, rfl⟩
  subst hke
  have hxa := Tr.ds_get hka
  rw [Tr.d_mk] at hxa
  refine Z24 ?_;refine Z146 ?_;refine Z2 ?_;refine Z58 ?_;refine Z137 ?_;refine Z84 ?_;refine Z9 ?_
  refine zgC ?_ ?_ <;> intro hb2
  ·
   refine Z5 ?_;refine Z190 ?_;refine Z4 ?_
   exact ⟨by rw [hlv]; unfold loopV; rw [all_no (p := fun k => k.op == 4) hka (by omega) (by show (aop == 4) = false; simpa [bne] using hb2)]; rfl, rfl⟩
  refine Z92 ?_;refine Z179 ?_
  refine hn0 _ (z + 1) ⟨by show ((z + 1 : Nat) : Int) ≤ num; omega, upto_step (p := fun _ (k : Tr) => k.op == 4) hz2 hka (by show (aop == 4) = true; simpa [bne] using hb2)⟩ (by omega) le_of
 have hge : z = num.toNat := by
  have : ¬ (z : Int) < num := by simpa using hb1
  omega
 obtain ⟨a, hka⟩ : ∃ k, ks[num.toNat]? = some k := ⟨_, gE (by omega)⟩
 obtain ⟨aop, anm, anu, aks, hke⟩ : ∃ op nm nu ks', a = .mk op nm nu ks' := by cases a; exact ⟨_, _, _, _, rfl⟩
 subst hke
 have hxa := Tr.ds_get hka
 rw [Tr.d_mk] at hxa
 obtain ⟨b, hkb⟩ : ∃ k, ks[num.toNat + 1]? = some k := ⟨_, gE (by omega)⟩
 obtain ⟨bop, bnm, bnu, bks, hke⟩ : ∃ op nm nu ks', b = .mk op nm nu ks' := by cases b; exact ⟨_, _, _, _, rfl⟩
 subst hke
 have hxb := Tr.ds_get hkb
 rw [Tr.d_mk] at hxb
 have hn0 : num.toNat = num := by omega
 have hxb' : (ks.map Tr.d)[(num + 1).toNat]? = some (.agg [.int .i64 bop, .str bnm, .int .i64 bnu, .sl (bks.map Tr.d)]) := by
  rw [show (num + 1).toNat = num.toNat + 1 from by omega]
  exact hxb
 refine Z158 ?_
 refine blk_exit (tN (zgS (zgS (gR ?_))))
 refine Z146 ?_;refine Z137 ?_;refine Z58 ?_;refine Z137 ?_
 refine gL (xs := [.tmp 46]) rfl (c81 _) ?_
 refine Z54 ?_;refine Z166 ?_
 refine sg rfl (fun hg => sP 50 rfl hg (qL u22)) ?_
 refine Z14 ?_
 refine sg rfl (fun hg => sP 52 rfl hg (qL u3)) ?_
 refine sg rfl (fun hg => sP 53 rfl hg q_add) ?_
 refine sg rfl (fun hg => sP 54 rfl hg (sP 51 rfl hg (qI u22 sz27))) ?_
 refine sg rfl (fun hg => sP 55 rfl hg (qF u27 rfl sz3)) ?_
 refine sg rfl (fun hg => sP 56 rfl hg (qL u3)) ?_
 refine sg rfl (fun hg => sP 57 rfl hg q_neq) ?_
 refine Z152 ?_
 refine zgC ?_ ?_ <;> intro hb3
 ·
  refine Z38 ?_;refine Z175 ?_;refine Z151 ?_
  exact ⟨by rw [hlv]; unfold loopV; rw [opK_get hka, opK_get hkb, show (isExprB (Tr.mk aop anm anu aks).op && (Tr.mk bop bnm bnu bks).op == 66) = false from by (show (isExprB aop && bop == 66) = false; revert hb3; cases isExprB aop <;> cases h : (bop == 66) <;> simp [bne, h]), Bool.and_false, Bool.false_and], rfl⟩
 refine Z96 ?_;refine Z175 ?_;refine Z137 ?_;refine Z161 ?_
 rw [show num + 2 = ((num.toNat + 2 : Nat) : Int) from by omega]
 refine Z41 ?_
 refine g_loop (α := Nat) (fun y => ⟨[(4, .d (.int .i64 (y : Nat))), (1, .d (.ptr (.agg [.int .i64 op, .str name, .int .i64 num, .sl (ks.map Tr.d)])))], []⟩) (fun y => ks.length - y) (fun y => num.toNat + 2 ≤ y ∧ y ≤ ks.length ∧ ∀ i, num.toNat + 2 ≤ i → i < y → ∀ k, ks[i]? = some k → (op == 55 && k.op == 67) = true) (num.toNat + 2) ⟨Nat.le_refl _, by omega, fun i h1 h2 => by omega⟩ (fun y hy Q' hn1 he1 hr1 => ?_) (le_of)
 obtain ⟨hy1, hy2, hy3⟩ := hy
 refine Z196 ?_;refine Z165 ?_;refine Z192 ?_
 refine zgC ?_ ?_ <;> intro hb4
 ·
  have hlt : y < ks.length := by simpa using hb4
  obtain ⟨c, hkc⟩ : ∃ k, ks[y]? = some k := ⟨_, gE (by omega)⟩
  obtain ⟨cop, cnm, cnu, cks, hke⟩ : ∃ op nm nu ks', c = .mk op nm nu ks' := by cases c; exact ⟨_, _, _, _, rfl⟩
  subst hke
  have hxc := Tr.ds_get hkc
  rw [Tr.d_mk] at hxc
  refine Z24 ?_;refine Z137 ?_;refine Z84 ?_;refine Z166 ?_
  refine sg rfl (fun hg => sP 74 rfl hg (qL u22)) ?_
  refine Z18 ?_
  refine sg rfl (fun hg => sP 76 rfl hg (sP 75 rfl hg (qI u22 sz27))) ?_
  refine sg rfl (fun hg => sP 77 rfl hg (qF u27 rfl sz3)) ?_
  refine sg rfl (fun hg => sP 78 rfl hg (qL u3)) ?_
  refine sg rfl (fun hg => sP 79 rfl hg q_neq) ?_
  refine Z152 ?_
  refine zgC ?_ ?_ <;> intro hb5
  ·
   refine Z38 ?_;refine Z175 ?_;refine Z130 ?_
   refine hr1 _ ?_
   refine Z81 ?_;refine Z4 ?_
   exact ⟨by rw [hlv]; unfold loopV; rw [drop_no (p := fun k => op == 55 && k.op == 67) hkc hy1 (by show (op == 55 && cop == 67) = false; revert hb5; cases h1 : (op == 55) <;> cases h2 : (cop == 67) <;> simp [bne, h1, h2]), Bool.and_false], rfl⟩
  refine Z103 ?_;refine Z175 ?_;refine Z179 ?_
  refine hn1 _ (y + 1) ⟨by omega, by omega, fun i g1 g2 k g3 => by
        by_cases hiy : i = y
        · subst hiy; rw [hkc] at g3; injection g3 with g3; subst g3; show (op == 55 && cop == 67) = true; revert hb5; cases h1 : (op == 55) <;> cases h2 : (cop == 67) <;> simp [bne, h1, h2]
        · exact hy3 i g1 (by omega) k g3⟩ (by omega) le_of
 have hge : y = ks.length := by
  have : ¬ (y : Int) < ((ks.map Tr.d).length : Nat) := by simpa using hb4
  rw [List.length_map] at this
  omega
 refine Z42 ?_
 refine he1 _ _ ?_
 refine Z35 ?_;refine Z133 ?_
 exact ⟨by rw [hlv]; unfold loopV; rw [all_yes (p := fun k => k.op == 4) (fun i hi => hz2 i (by omega)), opK_get hka, opK_get hkb, show (isExprB (Tr.mk aop anm anu aks).op && (Tr.mk bop bnm bnu bks).op == 66) = true from by (show (isExprB aop && bop == 66) = true; revert hb3; cases isExprB aop <;> cases h : (bop == 66) <;> simp [bne, h]), drop_yes (p := fun k => op == 55 && k.op == 67) (fun i h1 k hk => hy3 i h1 (by have := (lG hk); omega) k hk)]; rfl, rfl⟩
end
end Go.Proofs.YtklkbfpjimeaoaaGreat
