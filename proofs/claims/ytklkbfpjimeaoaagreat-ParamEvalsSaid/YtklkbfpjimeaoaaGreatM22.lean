import Derived.Test.YtklkbfpjimeaoaaGreatM20
import Derived.Test.YtklkbfpjimeaoaaGreatM21
/- Contracts of functions. Conditions: none. -/
namespace Go.Proofs.YtklkbfpjimeaoaaGreat
open Go Go.Proofs.YtklkbfpjimeaoaaGreat.E
theorem c81 (op : Int) : Pf Tryz.prog 81 [.int .i64 op] (.d (.bool (isExprB op))) := by
  refine pf_body (rvs := [.tmp 2]) [(0, .d (.int .i64 op))] Tryz.func81 Tryz.ntmps81 Tryz.results81 (fun S0 O0 w0 m0 hm0 => ?_)
  refine gS (gR ?_)
  refine vq rfl qA ?_
  refine gN (tN (gS (gR ?_)))
  refine vq rfl qM ?_
  refine vq rfl q_geq ?_
  refine vq rfl qM ?_
  refine sg rfl (fun hg => qM) ?_
  refine sg rfl (fun hg => sP 6 rfl hg q_leq) ?_
  refine vq rfl q_and ?_
  refine vq rfl qM ?_
  refine sg rfl (fun hg => qM) ?_
  refine sg rfl (fun hg => sP 10 rfl hg q_neq) ?_
  refine vq rfl q_and ?_
  refine vq rfl qA ?_
  refine gN (tN (gT ?_))
  refine fin1 (by simp) ?_
  exact ⟨by simp [isExprB, Bool.and_assoc], rfl⟩
theorem c96 (op : Int) : Pf Tryz.prog 96 [.int .i64 op] (.d (.bool (isStmtB op))) := by
  refine pf_body (rvs := [.tmp 2]) [(0, .d (.int .i64 op))] Tryz.func96 Tryz.ntmps96 Tryz.results96 (fun S0 O0 w0 m0 hm0 => ?_)
  refine gS (gR ?_)
  refine vq rfl qA ?_
  refine gN (tN (gS (gR ?_)))
  refine vq rfl qM ?_
  refine vq rfl q_geq ?_
  refine vq rfl qM ?_
  refine sg rfl (fun hg => qM) ?_
  refine sg rfl (fun hg => sP 6 rfl hg q_leq) ?_
  refine vq rfl q_and ?_
  refine vq rfl qA ?_
  refine gN (tN (gT ?_))
  refine fin1 (by simp) ?_
  exact ⟨by simp [isStmtB], rfl⟩
def lettR (c : Int) : Bool := (decide (c ≥ 97) && decide (c ≤ 122)) || (decide (c ≥ 65) && decide (c ≤ 90))
theorem by_get {s : ByteArray} {z : Nat} {c : UInt8} (h : s.data.toList[z]? = some c) : s[z]! = c := by
  obtain ⟨hlt, he⟩ := List.getElem?_eq_some_iff.1 h
  have hs : z < s.size := by rw [← bytes_len]; exact hlt
  rw [getElem!_pos s z hs, ← he]; rfl
theorem kind_eq (c op : Int) : kindOk c op = !(((c == 101 && !isExprB op) || (c == 98 && op != 66)) || (c == 110 && op != 4)) := by
  unfold kindOk
  by_cases h1 : c = 101
  · subst h1; simp
  · by_cases h2 : c = 98
    · subst h2; simp [bne]
      cases h : (op == 66) <;> simp_all
    · by_cases h3 : c = 110
      · subst h3; simp [bne]
        cases h : (op == 4) <;> simp_all
      · simp [h1, h2, h3]
theorem c240 (c : Int) : Pf Tryz.prog 240 [.int .u8 c] (.d (.bool (lettR c))) := by
  refine pf_body (rvs := [.tmp 2]) [(0, .d (.int .u8 c))] Tryz.func240 Tryz.ntmps240 Tryz.results240 (fun S0 O0 w0 m0 hm0 => ?_)
  refine gS (gR ?_)
  refine vq rfl qA ?_
  refine gN (tN (gS (gR ?_)))
  refine vq rfl qM ?_
  refine vq rfl q_geq ?_
  refine vq rfl qM ?_
  refine sg rfl (fun hg => qM) ?_
  refine sg rfl (fun hg => sP 6 rfl hg q_leq) ?_
  refine vq rfl q_and ?_
  refine vq rfl qM ?_
  refine sg rfl (fun hg => qM) ?_
  refine sg rfl (fun hg => sP 10 rfl hg q_geq) ?_
  refine sg rfl (fun hg => sP 11 rfl hg qM) ?_
  refine sg rfl (fun hg => qM) ?_
  refine sg rfl (fun hg => sP 13 rfl hg q_leq) ?_
  refine sg rfl (fun hg => sP 12 rfl hg q_and) ?_
  refine vq rfl q_or ?_
  refine vq rfl qA ?_
  refine gN (tN (gT ?_))
  refine fin1 (by simp) ?_
  exact ⟨rfl, rfl⟩
set_option maxHeartbeats 1000000 in
theorem c174 (s : ByteArray) : Pf Tryz.prog 174 [.str s] (.d (.bool (nameB s))) := by
  refine pf_body (rvs := [.tmp 2]) [(0, .d (.str s))] Tryz.func174 Tryz.ntmps174 Tryz.results174 (fun S0 O0 w0 m0 hm0 => ?_)
  refine gS (gR ?_)
  refine vq rfl qA ?_
  refine gN (tN (gS (gS (gR ?_))))
  refine vq rfl qM ?_
  refine vq rfl (q_lenstr u9) ?_
  refine vq rfl q_lss ?_
  refine vq rfl qM ?_
  refine sg rfl (fun hg => qM) ?_
  refine sg rfl (fun hg => sP 8 rfl hg (q_lenstr u9)) ?_
  refine sg rfl (fun hg => sP 9 rfl hg q_gtr) ?_
  refine vq rfl q_or ?_
  refine gN (tN ?_)
  refine gC (fun hb0 => ?_) (fun hb0 => ?_)
  ·
    have hnm : nameB s = false := by unfold nameB; rw [hb0]; rfl
    refine gS (gR ?_)
    refine vq rfl qA ?_
    refine gN (tN (gT (tR ?_)))
    refine fin1 (by simp) ?_
    exact ⟨by rw [hnm], rfl⟩
  have hsz : 1 ≤ s.size ∧ s.size ≤ 40 := by
    simp only [Bool.or_eq_false_iff, decide_eq_false_iff_not] at hb0
    omega
  refine gK (tN (gS (gS (gR ?_))))
  refine vq rfl qA ?_
  refine gN (tN (G_block ?_))
  refine g_loop (α := Nat) (fun z => ⟨[(3, .d (.int .i64 (z : Nat))), (0, .d (.str s))], []⟩) (fun z => s.size - z) (fun z => z ≤ s.size ∧ ∀ i, i < z → ∀ c, s.data.toList[i]? = some c → charOk i (c.toNat : Nat) = true) 0 ⟨Nat.zero_le _, by simp⟩ (fun z hz Q' hn0 he0 hr0 => ?_) (le_of)
  obtain ⟨hz1, hz2⟩ := hz
  refine gS (gS (gR ?_))
  refine vq rfl qM ?_
  refine vq rfl qM ?_
  refine vq rfl (q_lenstr u9) ?_
  refine vq rfl q_lss ?_
  refine gN (tN ?_)
  refine gC (fun hb1 => ?_) (fun hb1 => ?_)
  ·
    have hlt : z < s.size := by
      have : (z : Int) < (s.size : Nat) := by simpa using hb1
      omega
    obtain ⟨c, hc⟩ : ∃ c, s.data.toList[z]? = some c := ⟨_, List.getElem?_eq_getElem (by rw [bytes_len]; exact hlt)⟩
    have hcc := by_get hc
    refine gK (tN (gS (G_block (gS (gR ?_)))))
    refine vq rfl qM ?_
    refine vq rfl qM ?_
    refine vq rfl ((q_strindex u9)) ?_
    refine gL (xs := [.tmp 20]) rfl (c240 _) ?_
    refine vq rfl q_not ?_
    refine vq rfl qM ?_
    refine sg rfl (fun hg => qM) ?_
    refine sg rfl (fun hg => qM) ?_
    refine sg rfl (fun hg => sP 25 rfl hg (sP 24 rfl hg (q_strindex u9))) ?_
    refine sg rfl (fun hg => sP 26 rfl hg q_neq) ?_
    refine vq rfl q_and ?_
    refine vq rfl qM ?_
    refine sg rfl (fun hg => qM) ?_
    refine sg rfl (fun hg => sP 30 rfl hg q_eql) ?_
    refine sg rfl (fun hg => sP 31 rfl hg qM) ?_
    refine sg rfl (fun hg => qM) ?_
    refine sg rfl (fun hg => qM) ?_
    refine sg rfl (fun hg => sP 34 rfl hg (sP 33 rfl hg (q_strindex u9))) ?_
    refine sg rfl (fun hg => sP 35 rfl hg q_lss) ?_
    refine sg rfl (fun hg => sP 32 rfl hg q_or) ?_
    refine sg rfl (fun hg => sP 37 rfl hg qM) ?_
    refine sg rfl (fun hg => qM) ?_
    refine sg rfl (fun hg => qM) ?_
    refine sg rfl (fun hg => sP 40 rfl hg (sP 39 rfl hg (q_strindex u9))) ?_
    refine sg rfl (fun hg => sP 41 rfl hg q_gtr) ?_
    refine sg rfl (fun hg => sP 38 rfl hg q_or) ?_
    refine vq rfl q_and ?_
    refine gN (tN ?_)
    refine gC (fun hb2 => ?_) (fun hb2 => ?_)
    ·
      have hch : charOk z (c.toNat : Nat) = false := by
        simp only [Int.toNat_natCast, hcc, lettR, Bool.and_eq_true, Bool.or_eq_true, Bool.not_eq_true', Bool.or_eq_false_iff, Bool.and_eq_false_iff, decide_eq_true_eq, decide_eq_false_iff_not, beq_iff_eq, bne_iff_ne] at hb2
        simp only [charOk, letterB, Bool.or_eq_false_iff, Bool.and_eq_false_iff, Bool.not_eq_false', decide_eq_true_eq, decide_eq_false_iff_not]
        omega
      refine gS ?_
      refine gP [0, 2, 3] ?_
      refine gR ?_
      refine vq rfl qA ?_
      refine gN (tN (gT (bR (tR ?_))))
      refine hr0 _ ?_
      refine bR (tR ?_)
      refine fin1 (by simp) ?_
      exact ⟨by rw [nameB, zipIdx_not (p := fun i (c : UInt8) => charOk i (c.toNat : Nat)) hc hch, Bool.and_false], rfl⟩
    have hch : charOk z (c.toNat : Nat) = true := by
      simp only [Int.toNat_natCast, hcc, lettR, Bool.and_eq_true, Bool.or_eq_true, Bool.not_eq_false', Bool.or_eq_false_iff, Bool.and_eq_false_iff, decide_eq_true_eq, decide_eq_false_iff_not, beq_eq_false_iff_ne, bne_eq_false_iff_eq] at hb2
      simp only [charOk, letterB, Bool.or_eq_true, Bool.and_eq_true, Bool.not_eq_true', decide_eq_true_eq, decide_eq_false_iff_not]
      omega
    refine gK (bN (tN ?_))
    refine gP [0, 2, 3] ?_
    refine gR ?_
    refine vq rfl qM ?_
    refine vq rfl q_add ?_
    refine vq rfl qA ?_
    refine gN ?_
    refine hn0 _ (z + 1) ⟨by omega, upto_step (p := fun i (c : UInt8) => charOk i (c.toNat : Nat)) hz2 hc hch⟩ (by omega) le_of
  have hge : z = s.size := by
    have : ¬ (z : Int) < (s.size : Nat) := by simpa using hb1
    omega
  refine G_exit (thn_exit ?_)
  refine he0 _ _ ?_
  refine blk_exit (tN (gS (gR ?_)))
  refine vq rfl qA ?_
  refine gN (tN (gT ?_))
  refine fin1 (by simp) ?_
  exact ⟨by rw [nameB, zipIdx_all (p := fun i (c : UInt8) => charOk i (c.toNat : Nat)) (fun i hi x hx => hz2 i (by rw [bytes_len] at hi; omega) x hx)]; simp; omega, rfl⟩
theorem c176 (ts : List ByteArray) (v : ByteArray) (hlim : ts.length ≤ 140737488355328) : Pf Tryz.prog 176 [.sl (ts.map .str), .str v] (.d (.bool (hasB ts v))) := by
  refine pf_body (rvs := [.tmp 4]) [(0, .d (.sl (ts.map .str))), (1, .d (.str v))] Tryz.func176 Tryz.ntmps176 Tryz.results176 (fun S0 O0 w0 m0 hm0 => ?_)
  refine gS (gR ?_)
  refine vq rfl qA ?_
  refine gN (tN (gS (gS (gR ?_))))
  refine vq rfl qA ?_
  refine gN (tN (G_block ?_))
  refine g_loop (α := Nat) (fun z => ⟨[(5, .d (.int .i64 (z : Nat))), (1, .d (.str v)), (0, .d (.sl (ts.map .str)))], []⟩) (fun z => ts.length - z) (fun z => z ≤ ts.length ∧ ∀ i, i < z → ∀ x, ts[i]? = some x → (fun s => decide (v = s)) x = false) 0 ⟨Nat.zero_le _, by simp⟩ (fun z hz Q' hn0 he0 hr0 => ?_) (le_of)
  obtain ⟨hz1, hz2⟩ := hz
  refine gS (gS (gR ?_))
  refine vq rfl qM ?_
  refine vq rfl qM ?_
  refine vq rfl (q_len u63) ?_
  refine vq rfl q_lss ?_
  refine gN (tN ?_)
  refine gC (fun hb0 => ?_) (fun hb0 => ?_)
  ·
    have hlt : z < ts.length := by simpa using hb0
    obtain ⟨x, hx⟩ : ∃ x, ts[z]? = some x := ⟨_, List.getElem?_eq_getElem hlt⟩
    have hmem := List.mem_of_getElem? hx
    have hxd := strs_get hx
    refine gK (tN (gS (G_block (gS (gR ?_)))))
    refine vq rfl qM ?_
    refine vq rfl qM ?_
    refine vq rfl (qI u63 sz9) ?_
    refine vq rfl (qL u9) ?_
    refine vq rfl qM ?_
    refine vq rfl q_streq ?_
    refine gN (tN ?_)
    refine gC (fun hb1 => ?_) (fun hb1 => ?_)
    ·
      refine gS (gR ?_)
      refine vq rfl qA ?_
      refine gN (tN (gT (bR (tR ?_))))
      refine hr0 _ ?_
      refine bR (tR ?_)
      refine fin1 (by simp) ?_
      exact ⟨by rw [show hasB ts v = true from List.any_eq_true.2 ⟨x, hmem, by have := of_decide_eq_true hb1; exact decide_eq_true this.symm⟩], rfl⟩
    refine gK (bN (tN (gR ?_)))
    refine vq rfl qM ?_
    refine vq rfl q_add ?_
    refine vq rfl qA ?_
    refine gN ?_
    refine hn0 _ (z + 1) ⟨by omega, idxL_step hz2 hx (by have := of_decide_eq_false hb1; exact decide_eq_false (fun e => this e.symm))⟩ (by omega) le_of
  have hge : z = ts.length := by
    have : ¬ (z : Int) < (ts.map D.str).length := by simpa using hb0
    rw [List.length_map] at this
    omega
  refine G_exit (thn_exit ?_)
  refine he0 _ _ ?_
  refine blk_exit (tN (gS (gR ?_)))
  refine vq rfl qA ?_
  refine gN (tN (gT ?_))
  refine fin1 (by simp) ?_
  exact ⟨by rw [show hasB ts v = false from List.any_eq_false.2 (fun x hx => by obtain ⟨i, hi⟩ := List.getElem?_of_mem hx; have := hz2 i (by have := (List.getElem?_eq_some_iff.1 hi).1; omega) x hi; simpa using this)], rfl⟩
def bareB (t : Tr) : Bool := decide (t.nm = ⟨#[]⟩) && t.nu == 0
theorem c177 (t : Tr) : Pf Tryz.prog 177 [t.d] (.d (.bool (bareB t))) := by
  obtain ⟨op, name, num, ks⟩ := t
  rw [Tr.d_mk]
  try simp only [Tr.op_mk, Tr.nm_mk, Tr.nu_mk, Tr.kids_mk]
  refine pf_body (rvs := [.tmp 2]) [(0, .d (.agg [.int .i64 op, .str name, .int .i64 num, .sl (ks.map Tr.d)]))] Tryz.func177 Tryz.ntmps177 Tryz.results177 (fun S0 O0 w0 m0 hm0 => ?_)
  refine gS (gR ?_)
  refine sv rfl y_box ?_
  refine gF 0 [] (.agg [.int .i64 op, .str name, .int .i64 num, .sl (ks.map Tr.d)]) rfl ?_
  refine vq rfl qA ?_
  refine gN (tN (gS (gR ?_)))
  refine vq rfl (qF u27 rfl sz9) ?_
  refine vq rfl (qL u9) ?_
  refine vq rfl q_streq ?_
  refine vq rfl qM ?_
  refine sg rfl (fun hg => qF u27 rfl sz3) ?_
  refine sg rfl (fun hg => sP 7 rfl hg (qL u3)) ?_
  refine sg rfl (fun hg => sP 8 rfl hg q_eql) ?_
  refine vq rfl q_and ?_
  refine vq rfl qA ?_
  refine gN (tN (gT ?_))
  refine fin1 (by simp) ?_
  exact ⟨rfl, rfl⟩
set_option maxHeartbeats 4000000 in
theorem c239 (t : Tr) (s : ByteArray) (hok : t.Ok) : Pf Tryz.prog 239 [t.d, .str s] (.d (.bool (kidsB t.kids s))) := by
  obtain ⟨op, name, num, ks⟩ := t
  rw [Tr.d_mk]
  try simp only [Tr.kids_mk]
  cases hok with | mk h1 h2 h3 h4 h5 =>
  refine pf_body (rvs := [.tmp 4]) [(0, .d (.agg [.int .i64 op, .str name, .int .i64 num, .sl (ks.map Tr.d)])), (1, .d (.str s))] Tryz.func239 Tryz.ntmps239 Tryz.results239 (fun S0 O0 w0 m0 hm0 => ?_)
  refine gS (gR ?_)
  refine sv rfl y_box ?_
  refine gF 0 [] (.agg [.int .i64 op, .str name, .int .i64 num, .sl (ks.map Tr.d)]) rfl ?_
  refine vq rfl qA ?_
  refine gN (tN (gS (gS (gR ?_))))
  refine vq rfl (qF u27 rfl sz22) ?_
  refine vq rfl (qL u22) ?_
  refine vq rfl (q_len u22) ?_
  refine vq rfl qM ?_
  refine vq rfl (q_lenstr u9) ?_
  refine vq rfl q_neq ?_
  refine gN (tN ?_)
  refine gC (fun hb0 => ?_) (fun hb0 => ?_)
  ·
    have hne : ¬ ks.length = s.size := by
      simp at hb0
      omega
    refine gS (gR ?_)
    refine vq rfl qA ?_
    refine gN (tN (gT (tR ?_)))
    refine fin1 (by simp) ?_
    exact ⟨by rw [kidsB]; simp [hne], rfl⟩
  have hle : ks.length = s.size := by
    simp at hb0
    omega
  refine gK (tN (gS (gS (gR ?_))))
  refine vq rfl qA ?_
  refine gN (tN (G_block ?_))
  refine g_loop (α := Nat) (fun z => ⟨[(5, .d (.int .i64 (z : Nat))), (2, .d (.ptr (.agg [.int .i64 op, .str name, .int .i64 num, .sl (ks.map Tr.d)]))), (1, .d (.str s))], []⟩) (fun z => ks.length - z) (fun z => z ≤ ks.length ∧ ∀ i, i < z → ∀ k, ks[i]? = some k → kindOk ((s[i]!).toNat : Nat) k.op = true) 0 ⟨Nat.zero_le _, by simp⟩ (fun z hz Q' hn0 he0 hr0 => ?_) (le_of)
  obtain ⟨hz1, hz2⟩ := hz
  refine gS (gS (gR ?_))
  refine vq rfl qM ?_
  refine vq rfl qM ?_
  refine vq rfl (q_lenstr u9) ?_
  refine vq rfl q_lss ?_
  refine gN (tN ?_)
  refine gC (fun hb1 => ?_) (fun hb1 => ?_)
  ·
    have hlt : z < s.size := by
      have : (z : Int) < (s.size : Nat) := by simpa using hb1
      omega
    obtain ⟨k, hk⟩ : ∃ k, ks[z]? = some k := ⟨_, List.getElem?_eq_getElem (by omega)⟩
    have hmem := List.mem_of_getElem? hk
    have hxd := Tr.ds_get hk
    have hxa := hxd
    obtain ⟨kop, knm, knu, kks, hka⟩ := k.d_agg
    rw [hka] at hxa
    have hkop : k.op = kop := by obtain ⟨o, n, u, l⟩ := k; rw [Tr.d_mk] at hka; injection hka with hka; injection hka with hka; injection hka
    refine gK (tN (gS (G_block (gS (gR ?_)))))
    refine vq rfl (qF u27 rfl sz22) ?_
    refine vq rfl (qL u22) ?_
    refine vq rfl qM ?_
    refine vq rfl (qI u22 sz27) ?_
    refine vq rfl (qF u27 rfl sz3) ?_
    refine vq rfl (qL u3) ?_
    refine vq rfl qA ?_
    refine gN (tN (gS (gR ?_)))
    refine vq rfl qM ?_
    refine vq rfl qM ?_
    refine vq rfl ((q_strindex u9)) ?_
    refine vq rfl q_eql ?_
    refine vq rfl qM ?_
    refine sg rfl (fun hg => qM) ?_
    refine g_callg (xs := [.tmp 30]) rfl (fun hg => c81 kop) ?_
    refine sg rfl (fun hg => sP 31 rfl hg q_not) ?_
    refine vq rfl q_and ?_
    refine vq rfl qM ?_
    refine sg rfl (fun hg => qM) ?_
    refine sg rfl (fun hg => qM) ?_
    refine sg rfl (fun hg => sP 36 rfl hg (sP 35 rfl hg (q_strindex u9))) ?_
    refine sg rfl (fun hg => sP 37 rfl hg q_eql) ?_
    refine sg rfl (fun hg => sP 38 rfl hg qM) ?_
    refine sg rfl (fun hg => qM) ?_
    refine sg rfl (fun hg => sP 40 rfl hg q_neq) ?_
    refine sg rfl (fun hg => sP 39 rfl hg q_and) ?_
    refine vq rfl q_or ?_
    refine vq rfl qM ?_
    refine sg rfl (fun hg => qM) ?_
    refine sg rfl (fun hg => qM) ?_
    refine sg rfl (fun hg => sP 46 rfl hg (sP 45 rfl hg (q_strindex u9))) ?_
    refine sg rfl (fun hg => sP 47 rfl hg q_eql) ?_
    refine sg rfl (fun hg => sP 48 rfl hg qM) ?_
    refine sg rfl (fun hg => qM) ?_
    refine sg rfl (fun hg => sP 50 rfl hg q_neq) ?_
    refine sg rfl (fun hg => sP 49 rfl hg q_and) ?_
    refine vq rfl q_or ?_
    refine gN (tN ?_)
    refine gC (fun hb2 => ?_) (fun hb2 => ?_)
    ·
      have hkk : kindOk ((s[z]!).toNat : Nat) k.op = false := by
        rw [kind_eq, hkop]
        simp only [Int.toNat_natCast] at hb2
        rw [hb2]; rfl
      refine gS (gR ?_)
      refine vq rfl qA ?_
      refine gN (tN (gT (bR (tR ?_))))
      refine hr0 _ ?_
      refine bR (tR ?_)
      refine fin1 (by simp) ?_
      exact ⟨by rw [kidsB, zipIdx_not (p := fun i (k : Tr) => kindOk ((s[i]!).toNat : Nat) k.op) hk hkk, Bool.and_false], rfl⟩
    have hkk : kindOk ((s[z]!).toNat : Nat) k.op = true := by
      rw [kind_eq, hkop]
      simp only [Int.toNat_natCast] at hb2
      rw [hb2]; rfl
    refine gK (bN (tN (gR ?_)))
    refine vq rfl qM ?_
    refine vq rfl q_add ?_
    refine vq rfl qA ?_
    refine gN ?_
    refine hn0 _ (z + 1) ⟨by omega, upto_step (p := fun i (k : Tr) => kindOk ((s[i]!).toNat : Nat) k.op) hz2 hk hkk⟩ (by omega) le_of
  have hge : z = ks.length := by
    have : ¬ (z : Int) < (s.size : Nat) := by simpa using hb1
    omega
  refine G_exit (thn_exit ?_)
  refine he0 _ _ ?_
  refine blk_exit (tN (gS (gR ?_)))
  refine vq rfl qA ?_
  refine gN (tN (gT ?_))
  refine fin1 (by simp) ?_
  exact ⟨by rw [kidsB, zipIdx_all (p := fun i (k : Tr) => kindOk ((s[i]!).toNat : Nat) k.op) (fun i hi x hx => hz2 i (by have : i < ks.length := hi; omega) x hx)]; simp [hle], rfl⟩
end Go.Proofs.YtklkbfpjimeaoaaGreat
namespace Go.Proofs.YtklkbfpjimeaoaaGreat
open Go Go.Proofs.YtklkbfpjimeaoaaGreat.E
set_option maxHeartbeats 4000000 in
theorem c92n : ∀ (n : Nat) (t : Tr), t.size ≤ n → t.Ok → t.size ≤ 1000000000 → Pf Tryz.prog 92 [t.d] (.tup [.d (.int .i64 t.size), .d (.int .i64 t.depth)]) := by
  intro n
  induction n with
  | zero => intro t h; exact absurd t.size_pos (by omega)
  | succ n ih =>
    intro t hsz hok hszb
    obtain ⟨op, name, num, ks⟩ := t
    have hkd : ∀ k ∈ ks, k.size ≤ n := fun k hk => by
      have := Tr.size_mem hk
      rw [Tr.size] at hsz
      omega
    rw [Tr.d_mk]
    cases hok with | mk h1 h2 h3 h4 h5 =>
    have hln := Tr.len_sizes ks
    rw [Tr.size] at hszb
    refine pf_body (rvs := [.tmp 2, .tmp 3]) [(0, .d (.agg [.int .i64 op, .str name, .int .i64 num, .sl (ks.map Tr.d)]))] Tryz.func92 Tryz.ntmps92 Tryz.results92 (fun S0 O0 w0 m0 hm0 => ?_)
    refine gS (gR ?_)
    refine sv rfl y_box ?_
    refine gF 0 [] (.agg [.int .i64 op, .str name, .int .i64 num, .sl (ks.map Tr.d)]) rfl ?_
    refine vq rfl qA ?_
    refine vq rfl qA ?_
    refine gN (tN (gS (gR ?_)))
    refine vq rfl qA ?_
    refine vq rfl qA ?_
    refine gN (tN (gS (gS (gR ?_))))
    refine vq rfl qA ?_
    refine gN (tN (G_block ?_))
    refine g_loop (α := Nat × Int × Int) (fun z => ⟨[(6, .d (.int .i64 (z.1 : Nat))), (1, .d (.ptr (.agg [.int .i64 op, .str name, .int .i64 num, .sl (ks.map Tr.d)]))), (4, .d (.int .i64 z.2.1)), (5, .d (.int .i64 z.2.2))], []⟩) (fun z => ks.length - z.1) (fun z => z.1 ≤ ks.length ∧ 1 ≤ z.2.1 ∧ z.2.1 + Tr.sizes (ks.drop z.1) = 1 + Tr.sizes ks ∧ 0 ≤ z.2.2 ∧ z.2.2 ≤ Tr.sizes ks ∧ Tr.deeps (ks.drop z.1) z.2.2 = Tr.deeps ks 0) (0, 1, 0) ⟨Nat.zero_le _, by show (1 : Int) ≤ 1; omega, by show (1 : Int) + _ = _; simp, by show (0 : Int) ≤ 0; omega, by show (0 : Int) ≤ _; omega, rfl⟩ (fun z hz Q' hn0 he0 hr0 => ?_) (le_of)
    obtain ⟨z, c, e⟩ := z
    obtain ⟨hz1, hc1, hc2, hc3, hc4, hc5⟩ := hz
    replace hz1 : z ≤ ks.length := hz1
    replace hc1 : 1 ≤ c := hc1
    replace hc2 : c + Tr.sizes (ks.drop z) = 1 + Tr.sizes ks := hc2
    replace hc3 : 0 ≤ e := hc3
    replace hc4 : e ≤ Tr.sizes ks := hc4
    replace hc5 : Tr.deeps (ks.drop z) e = Tr.deeps ks 0 := hc5
    refine gS (gS (gR ?_))
    refine vq rfl qM ?_
    refine vq rfl (qF u27 rfl sz22) ?_
    refine vq rfl (qL u22) ?_
    refine vq rfl (q_len u22) ?_
    refine vq rfl q_lss ?_
    refine gN (tN ?_)
    refine gC (fun hb0 => ?_) (fun hb0 => ?_)
    ·
      have hlt : z < ks.length := by simpa using hb0
      obtain ⟨k, hk⟩ : ∃ k, ks[z]? = some k := ⟨_, List.getElem?_eq_getElem hlt⟩
      have hmem := List.mem_of_getElem? hk
      have hxd := Tr.ds_get hk
      have hxa := hxd
      obtain ⟨kop, knm, knu, kks, hka⟩ := k.d_agg
      rw [hka] at hxa
      have hsd := Tr.sizes_drop hk
      have hdb := Tr.depth_bd k
      have hsm := Tr.size_mem hmem
      refine gK (tN (gS (G_block (gS (gR ?_)))))
      refine vq rfl (qF u27 rfl sz22) ?_
      refine vq rfl (qL u22) ?_
      refine vq rfl qM ?_
      refine vq rfl (qI u22 sz27) ?_
      refine vq rfl (qG (by exact sz27) u27 rfl) ?_
      refine gL (xs := [.tmp 21]) rfl ((hka ▸ ih k (hkd k hmem) (h5 k hmem) (by omega))) ?_
      refine vq rfl qM ?_
      refine vq rfl qE ?_
      refine vq rfl qE ?_
      refine vq rfl qA ?_
      refine vq rfl qA ?_
      refine gN (tN (gS ?_))
      refine gP [0, 1, 2, 3, 4, 5, 6, 7, 8] ?_
      refine gR ?_
      refine vq rfl qM ?_
      refine vq rfl qM ?_
      refine vq rfl q_add ?_
      refine vq rfl qA ?_
      refine gN (tN (gR ?_))
      refine vq rfl qM ?_
      refine vq rfl qM ?_
      refine sv rfl (Yld_pure rfl (of_decide_eq_true rfl) q_max) ?_
      refine vq rfl qA ?_
      refine gN (bN (tN (gR ?_)))
      refine vq rfl qM ?_
      refine vq rfl q_add ?_
      refine vq rfl qA ?_
      refine gN ?_
      refine hn0 _ (z + 1, c + k.size, if k.depth > e then k.depth else e) ⟨by show z + 1 ≤ ks.length; omega, by show 1 ≤ c + (k.size : Int); omega, by show c + (k.size : Int) + (Tr.sizes (ks.drop (z + 1)) : Nat) = 1 + (Tr.sizes ks : Nat); omega, by show 0 ≤ (if k.depth > e then k.depth else e); split <;> omega, by show (if k.depth > e then k.depth else e) ≤ _; split <;> omega, by show Tr.deeps (ks.drop (z + 1)) _ = _; rw [← Tr.deeps_drop hk e]; exact hc5⟩ (by show ks.length - (z + 1) < ks.length - z; omega) le_of
    have hge : z = ks.length := by
      have : ¬ (z : Int) < (ks.map Tr.d).length := by simpa using hb0
      rw [List.length_map] at this
      omega
    have hdd := Tr.deeps_bd ks 0
    refine G_exit (thn_exit ?_)
    refine he0 _ _ ?_
    refine blk_exit (tN (gS (gR ?_)))
    subst hge
    rw [List.drop_length] at hc2 hc5
    rw [Tr.deeps] at hc5
    rw [Tr.sizes] at hc2
    refine vq rfl qM ?_
    refine vq rfl qM ?_
    refine vq rfl q_add ?_
    refine vq rfl qA ?_
    refine vq rfl qA ?_
    refine gN (tN (gT ?_))
    refine find2 (by simp) ?_
    exact ⟨by rw [Tr.size, Tr.depth, ← hc5]; congr 5; omega, rfl⟩
def methR (nm : ByteArray) : Int × ByteArray × ByteArray := match opTab.find? (fun x => decide (x.1 = nm)) with
  | some x => (x.2.2.2, x.2.1, x.2.2.1)
  | none => (-1, ⟨#[]⟩, ⟨#[]⟩)
theorem find3 {P : Program} {t u v : Nat} {p q r : PV} {d x y : D} {s : GS} {R : PV → List (List PV) → Prop} {e : Exit} (he : e = .normal ∨ e = .ret) (hR : R (.tup [.d d, .d x, .d y]) []) (hs : s.get t = some p := by simp only [GS.ev, GS.get, List.lookup_cons, Nat.reduceBEq, Option.getD_some, Option.getD_none, List.lookup_nil, ofConst] <;> rfl) (hq : p.toD = some d := by simp only [PV.toD, PV.toDs, Option.map_some] <;> rfl)
    (hs' : s.get u = some q := by simp only [GS.ev, GS.get, List.lookup_cons, Nat.reduceBEq, Option.getD_some, Option.getD_none, List.lookup_nil, ofConst] <;> rfl) (hq' : q.toD = some x := by simp only [PV.toD, PV.toDs, Option.map_some] <;> rfl) (hs2 : s.get v = some r := by simp only [GS.ev, GS.get, List.lookup_cons, Nat.reduceBEq, Option.getD_some, Option.getD_none, List.lookup_nil, ofConst] <;> rfl) (hq2 : r.toD = some y := by simp only [PV.toD, PV.toDs, Option.map_some] <;> rfl) :
    Fin P [.tmp t, .tmp u, .tmp v] 0 R e s := ⟨he, .inl ⟨[.d d, .d x, .d y], [], .cons (.dat hs hq) (.cons (.dat hs' hq') (.cons (.dat hs2 hq2) .nil)), Nat.le_refl _, .nil, rfl, hR⟩⟩
theorem pre_q (s : ByteArray) : preB s qmB = (decide ((s.size : Int) > 0) && ((s[0]!).toNat : Int) == 63) := by
  obtain ⟨⟨l⟩⟩ := s
  cases l with
  | nil => rfl
  | cons c r =>
    have h0 : (⟨⟨c :: r⟩⟩ : ByteArray)[0]! = c := by_get (z := 0) rfl
    have h1 : (⟨⟨c :: r⟩⟩ : ByteArray).size = r.length + 1 := rfl
    have h2 : (⟨⟨c :: r⟩⟩ : ByteArray).extract 0 1 = ⟨#[c]⟩ := by
      apply ByteArray.ext
      rw [ByteArray.data_extract]
      simp
    unfold preB
    rw [h0, h1, show qmB.size = 1 from rfl, h2]
    have h3 : decide ((⟨#[c]⟩ : ByteArray) = qmB) = ((c.toNat : Int) == 63) := by
      rw [Bool.eq_iff_iff, decide_eq_true_eq, beq_iff_eq]
      constructor
      · intro h; injection h with h; injection h with h; injection h with h _; rw [h]; rfl
      · intro h
        have h4 : c = 63 := UInt8.toNat_inj.1 (by show c.toNat = 63; omega)
        rw [h4]; rfl
    rw [h3, decide_eq_true (by omega : ((r.length + 1 : Nat) : Int) ≥ (1 : Nat)), decide_eq_true (by omega : ((r.length + 1 : Nat) : Int) > 0)]
theorem get_by {s : ByteArray} {z : Nat} {c : UInt8} (h : s.data.toList[z]? = some c) : s.get! z = c := by
  obtain ⟨hlt, he⟩ := List.getElem?_eq_some_iff.1 h
  have hd : z < s.data.size := by simpa using hlt
  show s.data[z]! = c
  rw [getElem!_pos s.data z hd, ← he]; rfl
theorem decode_lo {s : ByteArray} {z : Nat} {c : UInt8} (h : s.data.toList[z]? = some c) (hlt : c.toNat < 128) : Utf8.decode s z = (c.toNat, 1) := by
  have hg := get_by h
  unfold Utf8.decode
  simp only [Nat.add_zero, hg, hlt, if_true]
theorem decode_hi {s : ByteArray} {z : Nat} {c : UInt8} (h : s.data.toList[z]? = some c) (hge : ¬ c.toNat < 128) : 128 ≤ (Utf8.decode s z).1 := by
  have hg := get_by h
  unfold Utf8.decode
  simp only [Nat.add_zero, hg, hge, if_false]
  repeat' split
  all_goals first | (simp only [Utf8.runeError]; omega) | (dsimp only; omega) | (simp only [Bool.and_eq_true, decide_eq_true_eq] at *; omega)
theorem and_facts {n : Int} (h0 : ¬ n < 0) (h1 : ¬ n > 15) : (andI n 3 == 0) = (n.tmod 4 == 0) ∧ (andI n 1 != 0) = (n.tmod 2 == 1) ∧ (andI n 2 != 0) = ((W (n.tdiv 2)).tmod 2 == 1) := by
  have h : n = 0 ∨ n = 1 ∨ n = 2 ∨ n = 3 ∨ n = 4 ∨ n = 5 ∨ n = 6 ∨ n = 7 ∨ n = 8 ∨ n = 9 ∨ n = 10 ∨ n = 11 ∨ n = 12 ∨ n = 13 ∨ n = 14 ∨ n = 15 := by omega
  rcases h with rfl | rfl | rfl | rfl | rfl | rfl | rfl | rfl | rfl | rfl | rfl | rfl | rfl | rfl | rfl | rfl <;> exact ⟨rfl, rfl, rfl⟩
set_option maxHeartbeats 4000000 in
theorem c228 (nm : ByteArray) : Pf Tryz.prog 228 [.str nm] (.tup [.d (.int .i64 (methR nm).1), .d (.str (methR nm).2.1), .d (.str (methR nm).2.2)]) := by
  refine pf_body (rvs := [.tmp 2, .tmp 3, .tmp 4]) [(0, .d (.str nm))] Tryz.func228 Tryz.ntmps228 Tryz.results228 (fun S0 O0 w0 m0 hm0 => ?_)
  refine gS (gR ?_)
  refine vq rfl qA ?_
  refine vq rfl qA ?_
  refine vq rfl qA ?_
  refine gN (tN (gS (gS (gR ?_))))
  refine vq rfl qM ?_
  refine gN (tN (G_block (gS (gS (gR ?_)))))
  refine vq rfl q_streq ?_
  refine vq rfl qA ?_
  refine gN (tN ?_)
  refine gC (fun hb0 => ?_) (fun hb0 => ?_)
  ·
    refine gK (tN ?_)
    refine gC (fun hb1 => ?_) (fun hb1 => ?_)
    ·
      refine gS (gR ?_)
      refine vq rfl qA ?_
      refine vq rfl qA ?_
      refine vq rfl qA ?_
      refine gN (tN (gT (bR (tR ?_))))
      refine find3 (by simp) ?_
      exact ⟨by rw [of_decide_eq_true hb0]; rfl, rfl⟩
    exact absurd (hb0.symm.trans hb1) (by decide)
  refine gS (gR ?_)
  refine vq rfl q_streq ?_
  refine vq rfl qA ?_
  refine gN (tN ?_)
  refine gC (fun hb2 => ?_) (fun hb2 => ?_)
  ·
    refine gK (tN ?_)
    refine gC (fun hb3 => ?_) (fun hb3 => ?_)
    ·
      refine gS (gR ?_)
      refine vq rfl qA ?_
      refine vq rfl qA ?_
      refine vq rfl qA ?_
      refine gN (tN (gT (bR (tR ?_))))
      refine find3 (by simp) ?_
      exact ⟨by rw [of_decide_eq_true hb2]; rfl, rfl⟩
    exact absurd (hb2.symm.trans hb3) (by decide)
  refine gR ?_
  refine vq rfl q_streq ?_
  refine vq rfl qA ?_
  refine gN (tN ?_)
  refine gC (fun hb4 => ?_) (fun hb4 => ?_)
  ·
    refine gS (gR ?_)
    refine vq rfl qA ?_
    refine vq rfl qA ?_
    refine vq rfl qA ?_
    refine gN (tN (gT (bR (tR ?_))))
    refine find3 (by simp) ?_
    exact ⟨by rw [of_decide_eq_true hb4]; rfl, rfl⟩
  refine gS (gR ?_)
  refine vq rfl q_streq ?_
  refine vq rfl qA ?_
  refine gN (tN ?_)
  refine gC (fun hb5 => ?_) (fun hb5 => ?_)
  ·
    refine gS ?_
    refine gP [0, 2, 3, 4, 5, 6, 14, 20, 23] ?_
    refine gR ?_
    refine vq rfl qA ?_
    refine vq rfl qA ?_
    refine vq rfl qA ?_
    refine gN (tN (gT (bR (tR ?_))))
    refine find3 (by simp) ?_
    exact ⟨by rw [of_decide_eq_true hb5]; rfl, rfl⟩
  refine gS ?_
  refine gP [0, 2, 3, 4, 5, 6, 14, 20, 23] ?_
  refine gR ?_
  refine vq rfl q_streq ?_
  refine vq rfl qA ?_
  refine gN (tN ?_)
  refine gC (fun hb6 => ?_) (fun hb6 => ?_)
  ·
    refine gS (gR ?_)
    refine vq rfl qA ?_
    refine vq rfl qA ?_
    refine vq rfl qA ?_
    refine gN (tN (gT (bR (tR ?_))))
    refine find3 (by simp) ?_
    exact ⟨by rw [of_decide_eq_true hb6]; rfl, rfl⟩
  refine gS (gS (gR ?_))
  refine vq rfl q_streq ?_
  refine vq rfl qA ?_
  refine gN (tN ?_)
  refine gC (fun hb7 => ?_) (fun hb7 => ?_)
  ·
    refine gK (tN ?_)
    refine gC (fun hb8 => ?_) (fun hb8 => ?_)
    ·
      refine gS (gR ?_)
      refine vq rfl qA ?_
      refine vq rfl qA ?_
      refine vq rfl qA ?_
      refine gN (tN (gT (bR (tR ?_))))
      refine find3 (by simp) ?_
      exact ⟨by rw [of_decide_eq_true hb7]; rfl, rfl⟩
    exact absurd (hb7.symm.trans hb8) (by decide)
  refine gS (gR ?_)
  refine vq rfl q_streq ?_
  refine vq rfl qA ?_
  refine gN (tN ?_)
  refine gC (fun hb9 => ?_) (fun hb9 => ?_)
  ·
    refine gK (tN ?_)
    refine gC (fun hb10 => ?_) (fun hb10 => ?_)
    ·
      refine gS (gR ?_)
      refine vq rfl qA ?_
      refine vq rfl qA ?_
      refine vq rfl qA ?_
      refine gN (tN (gT (bR (tR ?_))))
      refine find3 (by simp) ?_
      exact ⟨by rw [of_decide_eq_true hb9]; rfl, rfl⟩
    exact absurd (hb9.symm.trans hb10) (by decide)
  refine gR ?_
  refine vq rfl q_streq ?_
  refine vq rfl qA ?_
  refine gN (tN ?_)
  refine gC (fun hb11 => ?_) (fun hb11 => ?_)
  ·
    refine gS (gR ?_)
    refine vq rfl qA ?_
    refine vq rfl qA ?_
    refine vq rfl qA ?_
    refine gN (tN (gT (bR (tR ?_))))
    refine find3 (by simp) ?_
    exact ⟨by rw [of_decide_eq_true hb11]; rfl, rfl⟩
  refine gS (gR ?_)
  refine vq rfl q_streq ?_
  refine vq rfl qA ?_
  refine gN (tN ?_)
  refine gC (fun hb12 => ?_) (fun hb12 => ?_)
  ·
    refine gS (gR ?_)
    refine vq rfl qA ?_
    refine vq rfl qA ?_
    refine vq rfl qA ?_
    refine gN (tN (gT (bR (tR ?_))))
    refine find3 (by simp) ?_
    exact ⟨by rw [of_decide_eq_true hb12]; rfl, rfl⟩
  refine gS (gS (gR ?_))
  refine vq rfl q_streq ?_
  refine vq rfl qA ?_
  refine gN (tN ?_)
  refine gC (fun hb13 => ?_) (fun hb13 => ?_)
  ·
    refine gK (tN ?_)
    refine gC (fun hb14 => ?_) (fun hb14 => ?_)
    ·
      refine gS ?_
      refine gP [0, 2, 3, 4, 5, 6, 14, 20, 23] ?_
      refine gR ?_
      refine vq rfl qA ?_
      refine vq rfl qA ?_
      refine vq rfl qA ?_
      refine gN (tN (gT (bR (tR ?_))))
      refine find3 (by simp) ?_
      exact ⟨by rw [of_decide_eq_true hb13]; rfl, rfl⟩
    exact absurd (hb13.symm.trans hb14) (by decide)
  refine gP [0, 2, 3, 4, 5, 6, 14, 20, 23] ?_
  refine gR ?_
  refine vq rfl q_streq ?_
  refine vq rfl qA ?_
  refine gN (tN ?_)
  refine gC (fun hb15 => ?_) (fun hb15 => ?_)
  ·
    refine gS (gR ?_)
    refine vq rfl qA ?_
    refine vq rfl qA ?_
    refine vq rfl qA ?_
    refine gN (tN (gT (bR (tR ?_))))
    refine find3 (by simp) ?_
    exact ⟨by rw [of_decide_eq_true hb15]; rfl, rfl⟩
  refine gS (gS (gR ?_))
  refine vq rfl q_streq ?_
  refine vq rfl qA ?_
  refine gN (tN ?_)
  refine gC (fun hb16 => ?_) (fun hb16 => ?_)
  ·
    refine gK (tN ?_)
    refine gC (fun hb17 => ?_) (fun hb17 => ?_)
    ·
      refine gS (gR ?_)
      refine vq rfl qA ?_
      refine vq rfl qA ?_
      refine vq rfl qA ?_
      refine gN (tN (gT (bR (tR ?_))))
      refine find3 (by simp) ?_
      exact ⟨by rw [of_decide_eq_true hb16]; rfl, rfl⟩
    exact absurd (hb16.symm.trans hb17) (by decide)
  refine gR ?_
  refine vq rfl q_streq ?_
  refine vq rfl qA ?_
  refine gN (tN ?_)
  refine gC (fun hb18 => ?_) (fun hb18 => ?_)
  ·
    refine gS (gR ?_)
    refine vq rfl qA ?_
    refine vq rfl qA ?_
    refine vq rfl qA ?_
    refine gN (tN (gT (bR (tR ?_))))
    refine find3 (by simp) ?_
    exact ⟨by rw [of_decide_eq_true hb18]; rfl, rfl⟩
  refine gS (gR ?_)
  refine vq rfl q_streq ?_
  refine vq rfl qA ?_
  refine gN (tN ?_)
  refine gC (fun hb19 => ?_) (fun hb19 => ?_)
  ·
    refine gS (gR ?_)
    refine vq rfl qA ?_
    refine vq rfl qA ?_
    refine vq rfl qA ?_
    refine gN (tN (gT (bR (tR ?_))))
    refine find3 (by simp) ?_
    exact ⟨by rw [of_decide_eq_true hb19]; rfl, rfl⟩
  refine gK (bN (tN (gS (gR ?_))))
  refine vq rfl qA ?_
  refine vq rfl qA ?_
  refine vq rfl qA ?_
  refine gN (tN (gT ?_))
  have hnone : opTab.find? (fun x => decide (x.1 = nm)) = none := by
    rw [List.find?_eq_none]
    intro x hx
    simp only [opTab, List.mem_cons, List.not_mem_nil, or_false] at hx
    rcases hx with rfl | rfl | rfl | rfl | rfl | rfl | rfl | rfl | rfl | rfl | rfl | rfl | rfl | rfl <;> (simp only [decide_eq_true_eq]; intro e; subst e; simp at *)
  refine find3 (by simp) ?_
  exact ⟨by rw [methR, hnone], rfl⟩
set_option maxHeartbeats 1000000 in
theorem c175 (t : Tr) : Pf Tryz.prog 175 [t.d] (.d (.bool (typedB t))) := by
  obtain ⟨op, name, num, ks⟩ := t
  rw [Tr.d_mk]
  try simp only [Tr.op_mk, Tr.nm_mk, Tr.nu_mk, Tr.kids_mk]
  refine pf_body (rvs := [.tmp 2]) [(0, .d (.agg [.int .i64 op, .str name, .int .i64 num, .sl (ks.map Tr.d)]))] Tryz.func175 Tryz.ntmps175 Tryz.results175 (fun S0 O0 w0 m0 hm0 => ?_)
  refine gS (gR ?_)
  refine sv rfl y_box ?_
  refine gF 0 [] (.agg [.int .i64 op, .str name, .int .i64 num, .sl (ks.map Tr.d)]) rfl ?_
  refine vq rfl qA ?_
  refine gN (tN (gS (gS (gR ?_))))
  refine vq rfl (qF u27 rfl sz3) ?_
  refine vq rfl (qL u3) ?_
  refine vq rfl q_neq ?_
  refine vq rfl qM ?_
  refine sg rfl (fun hg => qF u27 rfl sz3) ?_
  refine sg rfl (fun hg => sP 7 rfl hg (qL u3)) ?_
  refine sg rfl (fun hg => sP 8 rfl hg q_neq) ?_
  refine vq rfl q_or ?_
  refine vq rfl qM ?_
  refine sg rfl (fun hg => qF u27 rfl sz22) ?_
  refine sg rfl (fun hg => sP 12 rfl hg (qL u22)) ?_
  refine sg rfl (fun hg => sP 13 rfl hg (q_len u22)) ?_
  refine sg rfl (fun hg => sP 14 rfl hg q_gtr) ?_
  refine vq rfl q_or ?_
  refine gN (tN ?_)
  refine gC (fun hb0 => ?_) (fun hb0 => ?_)
  ·
    refine gS ?_
    refine gP [0, 1, 2] ?_
    refine gR ?_
    refine vq rfl qA ?_
    refine gN (tN (gT (tR ?_)))
    refine fin1 (by simp) ?_
    exact ⟨by rw [typedB, show ((op == 30 && num == 0) && (ks.length : Int) == 0) = false from by (simp only [Bool.or_eq_true, bne_iff_ne, decide_eq_true_eq, List.length_map] at hb0; rw [Bool.eq_false_iff]; intro h; simp only [Bool.and_eq_true, beq_iff_eq] at h; omega)]; rfl, rfl⟩
  have hp := pre_q name
  refine gK (tN (gS (gS ?_)))
  refine gP [0, 1, 2] ?_
  refine gR ?_
  refine vq rfl (qF u27 rfl sz9) ?_
  refine vq rfl (qL u9) ?_
  refine vq rfl (q_lenstr u9) ?_
  refine vq rfl q_gtr ?_
  refine vq rfl qM ?_
  refine sg rfl (fun hg => qF u27 rfl sz9) ?_
  refine sg rfl (fun hg => sP 22 rfl hg (qL u9)) ?_
  refine sg rfl (fun hg => sP 23 rfl hg (q_strindex u9 (h0 := by decide) (h1 := by simp at hg; omega))) ?_
  refine sg rfl (fun hg => sP 24 rfl hg q_eql) ?_
  refine vq rfl q_and ?_
  refine gN (tN ?_)
  refine gC (fun hb1 => ?_) (fun hb1 => ?_)
  ·
    have hpt : preB name qmB = true := by rw [hp]; exact hb1
    have hle : (qmB.size : Int) ≤ name.size := by
      unfold preB at hpt
      rw [Bool.and_eq_true, decide_eq_true_eq] at hpt
      exact hpt.1
    refine gS (gR ?_)
    refine vq rfl (qF u27 rfl sz9) ?_
    refine vq rfl (qL u9) ?_
    refine vq rfl ((q_strl u9 (h1 := by exact hle))) ?_
    refine gL (xs := [.tmp 29]) rfl (c174 _) ?_
    refine vq rfl qA ?_
    refine gN (tN (gT (tR ?_)))
    refine fin1 (by simp) ?_
    exact ⟨by rw [typedB, show ((op == 30 && num == 0) && (ks.length : Int) == 0) = true from by (simp only [Bool.or_eq_false_iff, bne_eq_false_iff_eq, decide_eq_false_iff_not, List.length_map] at hb0; simp only [Bool.and_eq_true, beq_iff_eq]; omega), trimB, if_pos hpt]; rfl, rfl⟩
  have hpf : preB name qmB = false := by rw [hp]; exact hb1
  refine gK (tN (gS (gR ?_)))
  refine vq rfl (qF u27 rfl sz9) ?_
  refine vq rfl (qL u9) ?_
  refine gL (xs := [.tmp 32]) rfl (c174 name) ?_
  refine vq rfl qA ?_
  refine gN (tN (gT ?_))
  refine fin1 (by simp) ?_
  exact ⟨by rw [typedB, show ((op == 30 && num == 0) && (ks.length : Int) == 0) = true from by (simp only [Bool.or_eq_false_iff, bne_eq_false_iff_eq, decide_eq_false_iff_not, List.length_map] at hb0; simp only [Bool.and_eq_true, beq_iff_eq]; omega), trimB, if_neg (by rw [hpf]; decide)]; rfl, rfl⟩
def textR : Tr → Bool
  | .mk _ name num ks => ((num == 0 && (ks.length : Int) == 0) && decide ((name.size : Int) ≤ 200)) && plainTx name
set_option maxHeartbeats 1000000 in
theorem c236 (t : Tr) : Pf Tryz.prog 236 [t.d] (.d (.bool (textR t))) := by
  obtain ⟨op, name, num, ks⟩ := t
  rw [Tr.d_mk]
  try simp only [Tr.op_mk, Tr.nm_mk, Tr.nu_mk, Tr.kids_mk]
  refine pf_body (rvs := [.tmp 2]) [(0, .d (.agg [.int .i64 op, .str name, .int .i64 num, .sl (ks.map Tr.d)]))] Tryz.func236 Tryz.ntmps236 Tryz.results236 (fun S0 O0 w0 m0 hm0 => ?_)
  refine gS (gR ?_)
  refine sv rfl y_box ?_
  refine gF 0 [] (.agg [.int .i64 op, .str name, .int .i64 num, .sl (ks.map Tr.d)]) rfl ?_
  refine vq rfl qA ?_
  refine gN (tN (gS (gS (gR ?_))))
  refine vq rfl (qF u27 rfl sz3) ?_
  refine vq rfl (qL u3) ?_
  refine vq rfl q_neq ?_
  refine vq rfl qM ?_
  refine sg rfl (fun hg => qF u27 rfl sz22) ?_
  refine sg rfl (fun hg => sP 8 rfl hg (qL u22)) ?_
  refine sg rfl (fun hg => sP 9 rfl hg (q_len u22)) ?_
  refine sg rfl (fun hg => sP 10 rfl hg q_gtr) ?_
  refine vq rfl q_or ?_
  refine vq rfl qM ?_
  refine sg rfl (fun hg => qF u27 rfl sz9) ?_
  refine sg rfl (fun hg => sP 14 rfl hg (qL u9)) ?_
  refine sg rfl (fun hg => sP 15 rfl hg (q_lenstr u9)) ?_
  refine sg rfl (fun hg => sP 16 rfl hg q_gtr) ?_
  refine vq rfl q_or ?_
  refine gN (tN ?_)
  refine gC (fun hb0 => ?_) (fun hb0 => ?_)
  ·
    refine gS ?_
    refine gP [0, 1, 2, 3] ?_
    refine gR ?_
    refine vq rfl qA ?_
    refine gN (tN (gT (tR ?_)))
    refine fin1 (by simp) ?_
    exact ⟨by rw [textR, show ((num == 0 && (ks.length : Int) == 0) && decide ((name.size : Int) ≤ 200)) = false from by (simp only [Bool.or_eq_true, bne_iff_ne, decide_eq_true_eq, List.length_map] at hb0; rw [Bool.eq_false_iff]; intro h; simp only [Bool.and_eq_true, beq_iff_eq, decide_eq_true_eq] at h; omega)]; rfl, rfl⟩
  have hn2 : (name.size : Int) ≤ 200 := by
    simp only [Bool.or_eq_false_iff, decide_eq_false_iff_not] at hb0
    omega
  refine gK (tN (gS (gS ?_)))
  refine gP [0, 1, 2, 3] ?_
  refine gR ?_
  refine vq rfl qA ?_
  refine gN (tN (G_block ?_))
  refine g_loop (α := Nat) (fun z => ⟨[(3, .d (.int .i64 (z : Nat))), (1, .d (.ptr (.agg [.int .i64 op, .str name, .int .i64 num, .sl (ks.map Tr.d)])))], []⟩) (fun z => name.size - z) (fun z => z ≤ name.size ∧ idxRune badR name z = idxRune badR name 0) 0 ⟨Nat.zero_le _, rfl⟩ (fun z hz Q' hn0 he0 hr0 => ?_) (le_of)
  obtain ⟨hz1, hz2⟩ := hz
  refine gS (gS (gR ?_))
  refine vq rfl qM ?_
  refine vq rfl (qF u27 rfl sz9) ?_
  refine vq rfl (qL u9) ?_
  refine vq rfl (q_lenstr u9) ?_
  refine vq rfl q_lss ?_
  refine gN (tN ?_)
  refine gC (fun hb1 => ?_) (fun hb1 => ?_)
  ·
    have hlt : z < name.size := by
      have : (z : Int) < (name.size : Nat) := by simpa using hb1
      omega
    obtain ⟨c, hc⟩ : ∃ c, name.data.toList[z]? = some c := ⟨_, List.getElem?_eq_getElem (by rw [bytes_len]; exact hlt)⟩
    have hcc := by_get hc
    refine gK (tN (gS (G_block (gS (gR ?_)))))
    refine vq rfl (qF u27 rfl sz9) ?_
    refine vq rfl (qL u9) ?_
    refine vq rfl qM ?_
    refine vq rfl ((q_strindex u9)) ?_
    refine vq rfl q_lss ?_
    refine vq rfl qM ?_
    refine sg rfl (fun hg => qF u27 rfl sz9) ?_
    refine sg rfl (fun hg => sP 32 rfl hg (qL u9)) ?_
    refine sg rfl (fun hg => qM) ?_
    refine sg rfl (fun hg => sP 34 rfl hg (sP 33 rfl hg (q_strindex u9))) ?_
    refine sg rfl (fun hg => sP 35 rfl hg q_gtr) ?_
    refine vq rfl q_or ?_
    refine gN (tN ?_)
    refine gC (fun hb2 => ?_) (fun hb2 => ?_)
    ·
      have hbr : badR (Utf8.decode name z).1 = true := by
        simp only [Int.toNat_natCast, hcc] at hb2
        by_cases h8 : c.toNat < 128
        · rw [decode_lo hc h8]; exact hb2
        · have := decode_hi hc h8
          unfold badR; rw [Bool.or_eq_true, decide_eq_true_eq, decide_eq_true_eq]; omega
      refine gS ?_
      refine gP [0, 1, 2, 3] ?_
      refine gR ?_
      refine vq rfl qA ?_
      refine gN (tN (gT (bR (tR ?_))))
      refine hr0 _ ?_
      refine bR (tR ?_)
      refine fin1 (by simp) ?_
      exact ⟨by rw [textR, show ((num == 0 && (ks.length : Int) == 0) && decide ((name.size : Int) ≤ 200)) = true from by (simp only [Bool.or_eq_false_iff, bne_eq_false_iff_eq, decide_eq_false_iff_not, List.length_map] at hb0; simp only [Bool.and_eq_true, beq_iff_eq, decide_eq_true_eq]; omega), plainTx, ← hz2, idxRune_hit hlt hbr, decide_eq_true (by omega)]; rfl, rfl⟩
    have hb2' := hb2
    simp only [Int.toNat_natCast, hcc] at hb2'
    have hbr : badR ((c.toNat : Nat) : Int) = false := hb2'
    have h8 : c.toNat < 128 := by unfold badR at hbr; rw [Bool.or_eq_false_iff, decide_eq_false_iff_not, decide_eq_false_iff_not] at hbr; omega
    have hdc := decode_lo hc h8
    refine gK (bN (tN ?_))
    refine gP [0, 1, 2, 3] ?_
    refine gR ?_
    refine vq rfl qM ?_
    refine vq rfl q_add ?_
    refine vq rfl qA ?_
    refine gN ?_
    refine hn0 _ (z + 1) ⟨by omega, by rw [← hz2]; have h := idxRune_miss (p := badR) hlt (by rw [hdc]; exact hbr); rw [hdc] at h; exact h⟩ (by omega) le_of
  have hge : ¬ z < name.size := by
    have : ¬ (z : Int) < (name.size : Nat) := by simpa using hb1
    omega
  refine G_exit (thn_exit ?_)
  refine he0 _ _ ?_
  refine blk_exit (tN (gS (gR ?_)))
  refine vq rfl qA ?_
  refine gN (tN (gT ?_))
  refine fin1 (by simp) ?_
  exact ⟨by rw [textR, show ((num == 0 && (ks.length : Int) == 0) && decide ((name.size : Int) ≤ 200)) = true from by (simp only [Bool.or_eq_false_iff, bne_eq_false_iff_eq, decide_eq_false_iff_not, List.length_map] at hb0; simp only [Bool.and_eq_true, beq_iff_eq, decide_eq_true_eq]; omega), plainTx, ← hz2, idxRune_end hge, decide_eq_false (by omega)]; rfl, rfl⟩
end Go.Proofs.YtklkbfpjimeaoaaGreat
