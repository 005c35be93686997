import Derived.Test.YtklkbfpjimeaoaaGreatM11
/- Contracts of functions. Conditions: none. -/
namespace Go.Proofs.YtklkbfpjimeaoaaGreat
open Go Go.Proofs.YtklkbfpjimeaoaaGreat.E
def letterB (c : Int) : Bool := (decide (c ≥ 97) && decide (c ≤ 122)) || (decide (c ≥ 65) && decide (c ≤ 90)) || decide (c = 95)
def charOk (i : Nat) (c : Int) : Bool := letterB c || (!decide (i = 0) && (decide (c ≥ 48) && decide (c ≤ 57)))
def nameB (s : ByteArray) : Bool := !(decide ((s.size : Int) < 1) || decide ((s.size : Int) > 40)) && s.data.toList.zipIdx.all fun x => charOk x.2 (x.1.toNat : Nat)
def preB (s p : ByteArray) : Bool := decide ((s.size : Int) ≥ (p.size : Nat)) && decide (s.extract 0 p.size = p)
def trimB (s p : ByteArray) : ByteArray := if preB s p = true then s.extract p.size s.size else s
theorem zipIdx_all {α : Type} {p : Nat → α → Bool} {xs : List α} (h : ∀ i, i < xs.length → ∀ x, xs[i]? = some x → p i x = true) : (xs.zipIdx.all fun x => p x.2 x.1) = true := by
  rw [List.all_eq_true]
  rintro ⟨x, i⟩ hx
  have := List.mem_zipIdx_iff_getElem?.1 hx
  exact h i (List.getElem?_eq_some_iff.1 this).1 x this
theorem zipIdx_not {α : Type} {p : Nat → α → Bool} {xs : List α} {i : Nat} {x : α} (hx : xs[i]? = some x) (h : p i x = false) : (xs.zipIdx.all fun x => p x.2 x.1) = false := by
  rw [List.all_eq_false]
  exact ⟨(x, i), List.mem_zipIdx_iff_getElem?.2 hx, by simp [h]⟩
theorem upto_step {α : Type} {p : Nat → α → Bool} {xs : List α} {z : Nat} {x : α} (h : ∀ i, i < z → ∀ y, xs[i]? = some y → p i y = true) (hx : xs[z]? = some x) (hb : p z x = true) : ∀ i, i < z + 1 → ∀ y, xs[i]? = some y → p i y = true := fun i hi y hy => by
  by_cases hiz : i = z
  · subst hiz; rw [hx] at hy; injection hy with hy; subst hy; exact hb
  · exact h i (by omega) y hy
theorem bytesD_get {b : ByteArray} {z : Nat} {c : UInt8} (h : b.data.toList[z]? = some c) : (bytesD b)[z]? = some (.int .u8 (c.toNat : Nat)) := by unfold bytesD; rw [List.getElem?_map, h]; rfl
theorem c319 (s p : ByteArray) : Pf Tryz.prog 319 [.str s, .str p] (.d (.bool (preB s p))) := by
  refine pf_body (rvs := [.tmp 4]) [(0, .d (.str s)), (1, .d (.str p))] Tryz.func319 Tryz.ntmps319 Tryz.results319 (fun S0 O0 w0 m0 hm0 => ?_)
  refine gS (gR ?_)
  refine vq rfl qA ?_
  refine gN (tN (gS (gR ?_)))
  refine vq rfl qM ?_
  refine vq rfl (q_lenstr u9) ?_
  refine vq rfl qM ?_
  refine vq rfl (q_lenstr u9) ?_
  refine vq rfl q_geq ?_
  refine vq rfl qM ?_
  refine g_split 10 true (fun hsp => ?_) (fun hsp => ?_)
  ·
    refine sgo rfl hsp y_move ?_
    refine sgo rfl hsp y_move ?_
    refine sgo rfl hsp (y_lenstr u9) ?_
    refine sgo rfl hsp (Yld_pure rfl (of_decide_eq_true rfl) (q_strh u9 (h1 := by simpa using hsp))) ?_
    refine sgo rfl hsp y_move ?_
    refine sgo rfl hsp y_streq ?_
    refine vq rfl q_and ?_
    refine vq rfl qA ?_
    refine gN (tN (gT ?_))
    refine fin1 (by simp) ?_
    exact ⟨by simp [preB], rfl⟩
  refine sgx rfl ?_ ?_
  · first | exact hsp | (rw [hsp]; rfl) | simp [hsp] | simp_all
  refine sgx rfl ?_ ?_
  · first | exact hsp | (rw [hsp]; rfl) | simp [hsp] | simp_all
  refine sgx rfl ?_ ?_
  · first | exact hsp | (rw [hsp]; rfl) | simp [hsp] | simp_all
  refine sgx rfl ?_ ?_
  · first | exact hsp | (rw [hsp]; rfl) | simp [hsp] | simp_all
  refine sgx rfl ?_ ?_
  · first | exact hsp | (rw [hsp]; rfl) | simp [hsp] | simp_all
  refine sgx rfl ?_ ?_
  · first | exact hsp | (rw [hsp]; rfl) | simp [hsp] | simp_all
  refine vq rfl q_and ?_
  refine vq rfl qA ?_
  refine gN (tN (gT ?_))
  refine fin1 (by simp) ?_
  exact ⟨by simp at hsp; simp [preB]; omega, rfl⟩
theorem c287 (s p : ByteArray) : Pf Tryz.prog 287 [.str s, .str p] (.d (.str (trimB s p))) := by
  refine pf_body (rvs := [.tmp 4]) [(0, .d (.str s)), (1, .d (.str p))] Tryz.func287 Tryz.ntmps287 Tryz.results287 (fun S0 O0 w0 m0 hm0 => ?_)
  refine gS (gR ?_)
  refine vq rfl qA ?_
  refine gN (tN (gS (gS (gR ?_))))
  refine vq rfl qM ?_
  refine vq rfl qM ?_
  refine gL (xs := [.tmp 5, .tmp 6]) rfl (c319 s p) ?_
  refine gN (tN ?_)
  refine gC (fun hb0 => ?_) (fun hb0 => ?_)
  ·
    have hle : (p.size : Int) ≤ s.size := by
      simp only [preB, Bool.and_eq_true, decide_eq_true_eq] at hb0
      exact hb0.1
    refine gS (gR ?_)
    refine vq rfl qM ?_
    refine vq rfl qM ?_
    refine vq rfl (q_lenstr u9) ?_
    refine vq rfl ((q_strl u9)) ?_
    refine vq rfl qA ?_
    refine gN (tN (gT (tR ?_)))
    refine fin1 (by simp) ?_
    exact ⟨by rw [trimB, if_pos hb0]; rfl, rfl⟩
  refine gK (tN (gS (gR ?_)))
  refine vq rfl qM ?_
  refine vq rfl qA ?_
  refine gN (tN (gT ?_))
  refine fin1 (by simp) ?_
  exact ⟨by rw [trimB, if_neg (by simp [hb0])], rfl⟩
theorem c235 (s p : ByteArray) : Pf Tryz.prog 235 [.str s, .str p] (.d (.str (trimB s p))) := by
  refine pf_body (rvs := [.tmp 4]) [(0, .d (.str s)), (1, .d (.str p))] Tryz.func235 Tryz.ntmps235 Tryz.results235 (fun S0 O0 w0 m0 hm0 => ?_)
  refine gS (gR ?_)
  refine vq rfl qA ?_
  refine gN (tN (gS (gR ?_)))
  refine vq rfl qM ?_
  refine vq rfl qM ?_
  refine gL (xs := [.tmp 5, .tmp 6]) rfl (c287 s p) ?_
  refine vq rfl qA ?_
  refine gN (tN (gT ?_))
  refine fin1 (by simp) ?_
  exact ⟨rfl, rfl⟩
set_option maxHeartbeats 1000000 in
theorem c167 (s : ByteArray) : Pf Tryz.prog 167 [.str s] (.d (.bool (nameB s))) := by
  refine pf_body (rvs := [.tmp 2]) [(0, .d (.str s))] Tryz.func167 Tryz.ntmps167 Tryz.results167 (fun S0 O0 w0 m0 hm0 => ?_)
  refine gS (gR ?_)
  refine vq rfl qA ?_
  refine gN (tN (gS (gS (gR ?_))))
  refine vq rfl qM ?_
  refine vq rfl (q_lenstr u9) ?_
  refine vq rfl q_lss ?_
  refine vq rfl qM ?_
  refine sg rfl (fun hg => qM) ?_
  refine sg rfl (fun hg => sP 10 rfl hg (q_lenstr u9)) ?_
  refine sg rfl (fun hg => sP 11 rfl hg q_gtr) ?_
  refine vq rfl q_or ?_
  refine gN (tN ?_)
  refine gC (fun hb0 => ?_) (fun hb0 => ?_)
  ·
    have hnm : nameB s = false := by unfold nameB; rw [hb0]; rfl
    refine gS (gR ?_)
    refine vq rfl qA ?_
    refine gN (tN (gT (tR ?_)))
    refine fin1 (by simp) ?_
    exact ⟨by rw [hnm], rfl⟩
  have hsz : 1 ≤ s.size ∧ s.size ≤ 40 := by
    simp only [Bool.or_eq_false_iff, decide_eq_false_iff_not] at hb0
    omega
  refine gK (tN (gS (gS (gR ?_))))
  refine vq rfl qM ?_
  refine sv rfl (y_strbytes u9 u243 u5) ?_
  refine vq rfl (q_len u243) ?_
  refine vq rfl qM ?_
  refine gN (tN (G_block ?_))
  refine g_loop (α := Nat) (fun z => ⟨[(17, .d (.int .i64 (z : Nat))), (16, .d (.int .i64 ((bytesD s).length : Nat))), (15, .d (.sl (bytesD s)))], []⟩) (fun z => s.size - z) (fun z => z ≤ s.size ∧ ∀ i, i < z → ∀ c, s.data.toList[i]? = some c → charOk i (c.toNat : Nat) = true) 0 ⟨Nat.zero_le _, by simp⟩ (fun z hz Q' hn0 he0 hr0 => ?_) (le_of)
  obtain ⟨hz1, hz2⟩ := hz
  have hbl := bytesD_length s
  refine gS (gR ?_)
  refine vq rfl q_lss ?_
  refine gN (tN (gS ?_))
  refine gC (fun hb1 => ?_) (fun hb1 => ?_)
  ·
    have hlt : z < s.size := by
      have : (z : Int) < ((bytesD s).length : Nat) := by simpa using hb1
      omega
    obtain ⟨c, hc⟩ : ∃ c, s.data.toList[z]? = some c := ⟨_, List.getElem?_eq_getElem (by rw [bytes_len]; exact hlt)⟩
    have hcd := bytesD_get hc
    refine gK (tN (gS (G_block (gS (gR ?_)))))
    refine vq rfl qM ?_
    refine vq rfl (qI u243 sz5) ?_
    refine vq rfl (qL u5) ?_
    refine vq rfl qA ?_
    refine vq rfl qA ?_
    refine gN (tN (gS (gR ?_)))
    refine vq rfl qM ?_
    refine vq rfl q_geq ?_
    refine vq rfl qM ?_
    refine sg rfl (fun hg => qM) ?_
    refine sg rfl (fun hg => sP 25 rfl hg q_leq) ?_
    refine vq rfl q_and ?_
    refine vq rfl qM ?_
    refine sg rfl (fun hg => qM) ?_
    refine sg rfl (fun hg => sP 29 rfl hg q_geq) ?_
    refine sg rfl (fun hg => sP 30 rfl hg qM) ?_
    refine sg rfl (fun hg => qM) ?_
    refine sg rfl (fun hg => sP 32 rfl hg q_leq) ?_
    refine sg rfl (fun hg => sP 31 rfl hg q_and) ?_
    refine vq rfl q_or ?_
    refine vq rfl qM ?_
    refine sg rfl (fun hg => qM) ?_
    refine sg rfl (fun hg => sP 37 rfl hg q_eql) ?_
    refine vq rfl q_or ?_
    refine vq rfl qA ?_
    refine gN (tN (gS ?_))
    refine gP [0, 2, 3, 4, 5, 15, 16, 17] ?_
    refine gR ?_
    refine vq rfl qM ?_
    refine vq rfl q_not ?_
    refine vq rfl qM ?_
    refine sg rfl (fun hg => qM) ?_
    refine sg rfl (fun hg => sP 43 rfl hg q_eql) ?_
    refine sg rfl (fun hg => sP 44 rfl hg qM) ?_
    refine sg rfl (fun hg => qM) ?_
    refine sg rfl (fun hg => sP 46 rfl hg q_lss) ?_
    refine sg rfl (fun hg => sP 45 rfl hg q_or) ?_
    refine sg rfl (fun hg => sP 48 rfl hg qM) ?_
    refine sg rfl (fun hg => qM) ?_
    refine sg rfl (fun hg => sP 50 rfl hg q_gtr) ?_
    refine sg rfl (fun hg => sP 49 rfl hg q_or) ?_
    refine vq rfl q_and ?_
    refine gN (tN ?_)
    refine gC (fun hb2 => ?_) (fun hb2 => ?_)
    ·
      have hch : charOk z (c.toNat : Nat) = false := by
        simp only [Bool.and_eq_true, Bool.or_eq_true, Bool.not_eq_true', Bool.or_eq_false_iff, Bool.and_eq_false_iff, decide_eq_true_eq, decide_eq_false_iff_not, beq_iff_eq, beq_eq_false_iff_ne] at hb2
        simp only [charOk, letterB, Bool.or_eq_false_iff, Bool.and_eq_false_iff, Bool.not_eq_false', decide_eq_true_eq, decide_eq_false_iff_not]
        omega
      refine gS ?_
      refine gP [0, 2, 3, 4, 5, 15, 16, 17] ?_
      refine gR ?_
      refine vq rfl qA ?_
      refine gN (tN (gT (bR (tR ?_))))
      refine hr0 _ ?_
      refine bR (tR ?_)
      refine fin1 (by simp) ?_
      exact ⟨by rw [nameB, zipIdx_not (p := fun i (c : UInt8) => charOk i (c.toNat : Nat)) hc hch, Bool.and_false], rfl⟩
    have hch : charOk z (c.toNat : Nat) = true := by
      simp only [Bool.and_eq_false_iff, Bool.or_eq_false_iff, Bool.not_eq_false', Bool.or_eq_true, Bool.and_eq_true, decide_eq_true_eq, decide_eq_false_iff_not, beq_iff_eq, beq_eq_false_iff_ne] at hb2
      simp only [charOk, letterB, Bool.or_eq_true, Bool.and_eq_true, Bool.not_eq_true', decide_eq_true_eq, decide_eq_false_iff_not]
      omega
    refine gK (bN (tN ?_))
    refine gP [0, 2, 3, 4, 5, 15, 16, 17] ?_
    refine gR ?_
    refine vq rfl q_add ?_
    refine vq rfl qM ?_
    refine gN ?_
    refine hn0 _ (z + 1) ⟨by omega, upto_step (p := fun i (c : UInt8) => charOk i (c.toNat : Nat)) hz2 hc hch⟩ (by omega) le_of
  have hge : z = s.size := by
    have : ¬ (z : Int) < ((bytesD s).length : Nat) := by simpa using hb1
    omega
  refine G_exit (thn_exit ?_)
  refine he0 _ _ ?_
  refine blk_exit (tN (gS (gR ?_)))
  refine vq rfl qA ?_
  refine gN (tN (gT ?_))
  refine fin1 (by simp) ?_
  exact ⟨by rw [nameB, zipIdx_all (p := fun i (c : UInt8) => charOk i (c.toNat : Nat)) (fun i hi x hx => hz2 i (by rw [bytes_len] at hi; omega) x hx)]; simp; omega, rfl⟩
def hasB (ns : List ByteArray) (n : ByteArray) : Bool := ns.any fun s => decide (n = s)
theorem strs_get {ns : List ByteArray} {z : Nat} {s : ByteArray} (h : ns[z]? = some s) : (ns.map D.str)[z]? = some (.str s) := by rw [List.getElem?_map, h]; rfl
theorem c260 (ts : List ByteArray) (v : ByteArray) (hlim : ts.length ≤ 140737488355328) : Pf Tryz.prog 260 [.sl (ts.map .str), .str v] (.d (.int .i64 (idxL (fun s => decide (v = s)) ts))) := by
  refine pf_body (rvs := [.tmp 4]) [(0, .d (.sl (ts.map .str))), (1, .d (.str v))] Tryz.func260 Tryz.ntmps260 Tryz.results260 (fun S0 O0 w0 m0 hm0 => ?_)
  refine gS (gR ?_)
  refine vq rfl qA ?_
  refine gN (tN (gS (gS (gR ?_))))
  refine vq rfl qM ?_
  refine vq rfl (q_len u63) ?_
  refine vq rfl qM ?_
  refine gN (tN (G_block ?_))
  refine g_loop (α := Nat) (fun z => ⟨[(8, .d (.int .i64 (z : Nat))), (7, .d (.int .i64 ((ts.map D.str).length : Nat))), (6, .d (.sl (ts.map .str))), (1, .d (.str v)), (0, .d (.sl (ts.map .str)))], []⟩) (fun z => ts.length - z) (fun z => z ≤ ts.length ∧ ∀ i, i < z → ∀ x, ts[i]? = some x → (fun s => decide (v = s)) x = false) 0 ⟨Nat.zero_le _, by simp⟩ (fun z hz Q' hn0 he0 hr0 => ?_) (le_of)
  obtain ⟨hz1, hz2⟩ := hz
  refine gS (gR ?_)
  refine vq rfl q_lss ?_
  refine gN (tN (gS ?_))
  refine gC (fun hb0 => ?_) (fun hb0 => ?_)
  ·
    have hlt : z < ts.length := by simpa using hb0
    obtain ⟨x, hx⟩ : ∃ x, ts[z]? = some x := ⟨_, List.getElem?_eq_getElem hlt⟩
    have hmem := List.mem_of_getElem? hx
    have hxd := strs_get hx
    refine gK (tN (gS (G_block (gS (gR ?_)))))
    refine vq rfl qM ?_
    refine vq rfl qA ?_
    refine gN (tN (gS (gR ?_)))
    refine vq rfl qM ?_
    refine vq rfl qM ?_
    refine vq rfl qM ?_
    refine vq rfl (qI u63 sz9) ?_
    refine vq rfl (qL u9) ?_
    refine vq rfl q_streq ?_
    refine gN (tN ?_)
    refine gC (fun hb1 => ?_) (fun hb1 => ?_)
    ·
      refine gS (gR ?_)
      refine vq rfl qM ?_
      refine vq rfl qA ?_
      refine gN (tN (gT (bR (tR ?_))))
      refine hr0 _ ?_
      refine bR (tR ?_)
      exact fin1 (by simp) ⟨idxL_found hz2 hx hb1, rfl⟩
    refine gK (bN (tN (gR ?_)))
    refine vq rfl q_add ?_
    refine vq rfl qM ?_
    refine gN ?_
    refine hn0 _ (z + 1) ⟨by omega, idxL_step hz2 hx hb1⟩ (by omega) le_of
  have hge : z = ts.length := by
    have : ¬ (z : Int) < (ts.map D.str).length := by simpa using hb0
    rw [List.length_map] at this
    omega
  refine G_exit (thn_exit ?_)
  refine he0 _ _ ?_
  refine blk_exit (tN (gS (gR ?_)))
  refine vq rfl qA ?_
  refine gN (tN (gT ?_))
  exact fin1 (by simp) ⟨idxL_none (hge ▸ hz2), rfl⟩
theorem c282 (ts : List ByteArray) (g : FuncId) (fa fc : List D) (p : ByteArray → Bool) (hlim : ts.length ≤ 140737488355328)
    (hcb : ∀ x ∈ ts, Pf Tryz.prog g (fa ++ [.str x] ++ fc) (.d (.bool (p x)))) : Pf Tryz.prog 282 [.sl (ts.map .str), .fn (.func g) fa fc] (.d (.int .i64 (idxL p ts))) := by
  refine pf_body (rvs := [.tmp 4]) [(0, .d (.sl (ts.map .str))), (1, .d (.fn (.func g) fa fc))] Tryz.func282 Tryz.ntmps282 Tryz.results282 (fun S0 O0 w0 m0 hm0 => ?_)
  refine gS (gR ?_)
  refine vq rfl qA ?_
  refine gN (tN (gS (gS (gR ?_))))
  refine vq rfl qM ?_
  refine vq rfl (q_len u63) ?_
  refine vq rfl qM ?_
  refine gN (tN (G_block ?_))
  refine g_loop (α := Nat) (fun z => ⟨[(8, .d (.int .i64 (z : Nat))), (7, .d (.int .i64 ((ts.map D.str).length : Nat))), (6, .d (.sl (ts.map .str))), (1, .d (.fn (.func g) fa fc)), (0, .d (.sl (ts.map .str)))], []⟩) (fun z => ts.length - z) (fun z => z ≤ ts.length ∧ ∀ i, i < z → ∀ x, ts[i]? = some x → p x = false) 0 ⟨Nat.zero_le _, by simp⟩ (fun z hz Q' hn0 he0 hr0 => ?_) (le_of)
  obtain ⟨hz1, hz2⟩ := hz
  refine gS (gR ?_)
  refine vq rfl q_lss ?_
  refine gN (tN (gS ?_))
  refine gC (fun hb0 => ?_) (fun hb0 => ?_)
  ·
    have hlt : z < ts.length := by simpa using hb0
    obtain ⟨x, hx⟩ : ∃ x, ts[z]? = some x := ⟨_, List.getElem?_eq_getElem hlt⟩
    have hmem := List.mem_of_getElem? hx
    have hxd := strs_get hx
    refine gK (tN (gS (G_block (gS (gR ?_)))))
    refine vq rfl qM ?_
    refine vq rfl qA ?_
    refine gN (tN (gS (gR ?_)))
    refine vq rfl qM ?_
    refine vq rfl qM ?_
    refine vq rfl qM ?_
    refine vq rfl (qI u63 sz9) ?_
    refine vq rfl (qL u9) ?_
    refine gL (xs := [.tmp 15]) rfl (hcb x hmem) ?_
    refine gN (tN ?_)
    refine gC (fun hb1 => ?_) (fun hb1 => ?_)
    ·
      refine gS (gR ?_)
      refine vq rfl qM ?_
      refine vq rfl qA ?_
      refine gN (tN (gT (bR (tR ?_))))
      refine hr0 _ ?_
      refine bR (tR ?_)
      exact fin1 (by simp) ⟨idxL_found hz2 hx hb1, rfl⟩
    refine gK (bN (tN (gR ?_)))
    refine vq rfl q_add ?_
    refine vq rfl qM ?_
    refine gN ?_
    refine hn0 _ (z + 1) ⟨by omega, idxL_step hz2 hx hb1⟩ (by omega) le_of
  have hge : z = ts.length := by
    have : ¬ (z : Int) < (ts.map D.str).length := by simpa using hb0
    rw [List.length_map] at this
    omega
  refine G_exit (thn_exit ?_)
  refine he0 _ _ ?_
  refine blk_exit (tN (gS (gR ?_)))
  refine vq rfl qA ?_
  refine gN (tN (gT ?_))
  exact fin1 (by simp) ⟨idxL_none (hge ▸ hz2), rfl⟩
theorem c199 (ts : List ByteArray) (v : ByteArray) (hlim : ts.length ≤ 140737488355328) : Pf Tryz.prog 199 [.sl (ts.map .str), .str v] (.d (.bool (hasB ts v))) := by
  refine pf_body (rvs := [.tmp 4]) [(0, .d (.sl (ts.map .str))), (1, .d (.str v))] Tryz.func199 Tryz.ntmps199 Tryz.results199 (fun S0 O0 w0 m0 hm0 => ?_)
  refine gS (gR ?_)
  refine vq rfl qA ?_
  refine gN (tN (gS (gR ?_)))
  refine vq rfl qM ?_
  refine vq rfl qM ?_
  refine gL (xs := [.tmp 5, .tmp 6]) rfl (c260 ts v hlim) ?_
  refine vq rfl q_geq ?_
  refine vq rfl qA ?_
  refine gN (tN (gT ?_))
  refine fin1 (by simp) ?_
  exact ⟨by rw [idxL_any]; rfl, rfl⟩
theorem c230 (ts : List ByteArray) (g : FuncId) (fa fc : List D) (p : ByteArray → Bool) (hlim : ts.length ≤ 140737488355328)
    (hcb : ∀ x ∈ ts, Pf Tryz.prog g (fa ++ [.str x] ++ fc) (.d (.bool (p x)))) : Pf Tryz.prog 230 [.sl (ts.map .str), .fn (.func g) fa fc] (.d (.bool (ts.any p))) := by
  refine pf_body (rvs := [.tmp 4]) [(0, .d (.sl (ts.map .str))), (1, .d (.fn (.func g) fa fc))] Tryz.func230 Tryz.ntmps230 Tryz.results230 (fun S0 O0 w0 m0 hm0 => ?_)
  refine gS (gR ?_)
  refine vq rfl qA ?_
  refine gN (tN (gS (gR ?_)))
  refine vq rfl qM ?_
  refine vq rfl qM ?_
  refine gL (xs := [.tmp 5, .tmp 6]) rfl (c282 ts g fa fc p hlim hcb) ?_
  refine vq rfl q_geq ?_
  refine vq rfl qA ?_
  refine gN (tN (gT ?_))
  refine fin1 (by simp) ?_
  exact ⟨by rw [idxL_any], rfl⟩
def kindOk (c : Int) (op : Int) : Bool := if c = 101 then isExprB op else if c = 98 then decide (op = 66) else if c = 110 then decide (op = 4) else true
def kidsB (ks : List Tr) (s : ByteArray) : Bool := decide (ks.length = s.size) && ks.zipIdx.all fun x => kindOk ((s[x.2]!).toNat : Nat) x.1.op
theorem kidsB_len {ks : List Tr} {s : ByteArray} (h : kidsB ks s = true) : ks.length = s.size := by
  unfold kidsB at h
  rw [Bool.and_eq_true, decide_eq_true_eq] at h
  exact h.1
set_option maxHeartbeats 4000000 in
theorem c156 (t : Tr) (s : ByteArray) (hok : t.Ok) : Pf Tryz.prog 156 [t.d, .str s] (.d (.bool (kidsB t.kids s))) := by
  obtain ⟨op, name, num, ks⟩ := t
  rw [Tr.d_mk]
  try simp only [Tr.kids_mk]
  cases hok with | mk h1 h2 h3 h4 h5 =>
  refine pf_body (rvs := [.tmp 4]) [(0, .d (.agg [.int .i64 op, .str name, .int .i64 num, .sl (ks.map Tr.d)])), (1, .d (.str s))] Tryz.func156 Tryz.ntmps156 Tryz.results156 (fun S0 O0 w0 m0 hm0 => ?_)
  refine gS (gR ?_)
  refine sv rfl y_box ?_
  refine gF 0 [] (.agg [.int .i64 op, .str name, .int .i64 num, .sl (ks.map Tr.d)]) rfl ?_
  refine vq rfl qA ?_
  refine gN (tN (gS (gS (gR ?_))))
  refine vq rfl (qF u27 rfl sz22) ?_
  refine vq rfl (qL u22) ?_
  refine vq rfl (q_len u22) ?_
  refine vq rfl qM ?_
  refine vq rfl (q_lenstr u9) ?_
  refine vq rfl q_neq ?_
  refine gN (tN ?_)
  refine gC (fun hb0 => ?_) (fun hb0 => ?_)
  ·
    have hne : ¬ ks.length = s.size := by
      simp at hb0
      omega
    refine gS (gR ?_)
    refine vq rfl qA ?_
    refine gN (tN (gT (tR ?_)))
    refine fin1 (by simp) ?_
    exact ⟨by rw [kidsB]; simp [hne], rfl⟩
  have hle : ks.length = s.size := by
    simp at hb0
    omega
  refine gK (tN (gS (gS (gR ?_))))
  refine vq rfl (qF u27 rfl sz22) ?_
  refine vq rfl (qL u22) ?_
  refine vq rfl (q_len u22) ?_
  refine vq rfl qM ?_
  refine gN (tN (G_block ?_))
  refine g_loop (α := Nat) (fun z => ⟨[(16, .d (.int .i64 (z : Nat))), (15, .d (.int .i64 ((ks.map Tr.d).length : Nat))), (14, .d (.sl (ks.map Tr.d))), (1, .d (.str s))], []⟩) (fun z => ks.length - z) (fun z => z ≤ ks.length ∧ ∀ i, i < z → ∀ k, ks[i]? = some k → kindOk ((s[i]!).toNat : Nat) k.op = true) 0 ⟨Nat.zero_le _, by simp⟩ (fun z hz Q' hn0 he0 hr0 => ?_) (le_of)
  obtain ⟨hz1, hz2⟩ := hz
  refine gS (gR ?_)
  refine vq rfl q_lss ?_
  refine gN (tN (gS ?_))
  refine gC (fun hb1 => ?_) (fun hb1 => ?_)
  ·
    have hlt : z < ks.length := by simpa using hb1
    obtain ⟨k, hk⟩ : ∃ k, ks[z]? = some k := ⟨_, List.getElem?_eq_getElem hlt⟩
    have hmem := List.mem_of_getElem? hk
    have hxd := Tr.ds_get hk
    have hxa := hxd
    obtain ⟨kop, knm, knu, kks, hka⟩ := k.d_agg
    rw [hka] at hxa
    have hkop : k.op = kop := by obtain ⟨o, n, u, l⟩ := k; rw [Tr.d_mk] at hka; injection hka with hka; injection hka with hka; injection hka
    refine gK (tN (gS (G_block (gS (gR ?_)))))
    refine vq rfl qM ?_
    refine vq rfl (qI u22 sz27) ?_
    refine vq rfl (qG (by exact sz27) u27 rfl) ?_
    refine sv rfl (y_alloc zr27) ?_
    refine vq rfl qA ?_
    refine sa rfl (dS sz27) ?_
    refine gF 0 [] (.agg [.int .i64 kop, .str knm, .int .i64 knu, .sl (kks.map Tr.d)]) rfl ?_
    refine gN (tN (gS (gR ?_)))
    refine vq rfl qM ?_
    refine vq rfl qM ?_
    refine vq rfl ((q_strindex u9 (h0 := by omega) (h1 := by omega))) ?_
    rw [Int.toNat_natCast]
    refine gN (tN (G_block (gS (gR ?_))))
    refine vq rfl q_eql ?_
    refine vq rfl qA ?_
    refine gN (tN ?_)
    refine gC (fun hb2 => ?_) (fun hb2 => ?_)
    ·
      refine gS ?_
      refine gP [0, 1, 2, 4, 5, 6, 14, 15, 16, 23] ?_
      refine gR ?_
      refine vq rfl (qF u27 rfl sz3) ?_
      refine vq rfl (qL u3) ?_
      refine gL (xs := [.tmp 27]) rfl (c74 kop) ?_
      refine vq rfl q_not ?_
      refine gN (tN ?_)
      refine gC (fun hb3 => ?_) (fun hb3 => ?_)
      ·
        refine gS (gR ?_)
        refine vq rfl qA ?_
        refine gN (tN (gT (bR (bR (tR ?_)))))
        refine hr0 _ ?_
        refine bR (tR ?_)
        refine fin1 (by simp) ?_
        exact ⟨by rw [kidsB, zipIdx_not (p := fun i (k : Tr) => kindOk ((s[i]!).toNat : Nat) k.op) hk (by rw [hkop]; unfold kindOk; rw [if_pos (of_decide_eq_true hb2)]; simpa using hb3), Bool.and_false], rfl⟩
      refine gK (bN (bN (tN (gR ?_))))
      refine vq rfl q_add ?_
      refine vq rfl qM ?_
      refine gN ?_
      refine hn0 _ (z + 1) ⟨by omega, upto_step (p := fun i (k : Tr) => kindOk ((s[i]!).toNat : Nat) k.op) hz2 hk (by rw [hkop]; unfold kindOk; rw [if_pos (of_decide_eq_true hb2)]; simpa using hb3)⟩ (by omega) le_of
    refine gS ?_
    refine gP [0, 1, 2, 4, 5, 6, 14, 15, 16, 23] ?_
    refine gR ?_
    refine vq rfl q_eql ?_
    refine vq rfl qA ?_
    refine gN (tN ?_)
    refine gC (fun hb4 => ?_) (fun hb4 => ?_)
    ·
      refine gS (gR ?_)
      refine vq rfl (qF u27 rfl sz3) ?_
      refine vq rfl (qL u3) ?_
      refine vq rfl q_neq ?_
      refine gN (tN ?_)
      refine gC (fun hb5 => ?_) (fun hb5 => ?_)
      ·
        refine gS (gR ?_)
        refine vq rfl qA ?_
        refine gN (tN (gT (bR (bR (tR ?_)))))
        refine hr0 _ ?_
        refine bR (tR ?_)
        refine fin1 (by simp) ?_
        exact ⟨by rw [kidsB, zipIdx_not (p := fun i (k : Tr) => kindOk ((s[i]!).toNat : Nat) k.op) hk (by rw [hkop]; unfold kindOk; rw [if_neg (of_decide_eq_false hb2), if_pos (of_decide_eq_true hb4)]; simpa using hb5), Bool.and_false], rfl⟩
      refine gK (bN (bN (tN (gR ?_))))
      refine vq rfl q_add ?_
      refine vq rfl qM ?_
      refine gN ?_
      refine hn0 _ (z + 1) ⟨by omega, upto_step (p := fun i (k : Tr) => kindOk ((s[i]!).toNat : Nat) k.op) hz2 hk (by rw [hkop]; unfold kindOk; rw [if_neg (of_decide_eq_false hb2), if_pos (of_decide_eq_true hb4)]; simpa using hb5)⟩ (by omega) le_of
    refine gS (gR ?_)
    refine vq rfl q_eql ?_
    refine vq rfl qA ?_
    refine gN (tN ?_)
    refine gC (fun hb6 => ?_) (fun hb6 => ?_)
    ·
      refine gS (gR ?_)
      refine vq rfl (qF u27 rfl sz3) ?_
      refine vq rfl (qL u3) ?_
      refine vq rfl q_neq ?_
      refine gN (tN ?_)
      refine gC (fun hb7 => ?_) (fun hb7 => ?_)
      ·
        refine gS (gR ?_)
        refine vq rfl qA ?_
        refine gN (tN (gT (bR (bR (tR ?_)))))
        refine hr0 _ ?_
        refine bR (tR ?_)
        refine fin1 (by simp) ?_
        exact ⟨by rw [kidsB, zipIdx_not (p := fun i (k : Tr) => kindOk ((s[i]!).toNat : Nat) k.op) hk (by rw [hkop]; unfold kindOk; rw [if_neg (of_decide_eq_false hb2), if_neg (of_decide_eq_false hb4), if_pos (of_decide_eq_true hb6)]; simpa using hb7), Bool.and_false], rfl⟩
      refine gK (bN (bN (tN (gR ?_))))
      refine vq rfl q_add ?_
      refine vq rfl qM ?_
      refine gN ?_
      refine hn0 _ (z + 1) ⟨by omega, upto_step (p := fun i (k : Tr) => kindOk ((s[i]!).toNat : Nat) k.op) hz2 hk (by rw [hkop]; unfold kindOk; rw [if_neg (of_decide_eq_false hb2), if_neg (of_decide_eq_false hb4), if_pos (of_decide_eq_true hb6)]; simpa using hb7)⟩ (by omega) le_of
    refine gK (bN (bN (tN (gR ?_))))
    refine vq rfl q_add ?_
    refine vq rfl qM ?_
    refine gN ?_
    refine hn0 _ (z + 1) ⟨by omega, upto_step (p := fun i (k : Tr) => kindOk ((s[i]!).toNat : Nat) k.op) hz2 hk (by rw [hkop]; unfold kindOk; rw [if_neg (of_decide_eq_false hb2), if_neg (of_decide_eq_false hb4), if_neg (of_decide_eq_false hb6)])⟩ (by omega) le_of
  have hge : z = ks.length := by
    have : ¬ (z : Int) < (ks.map Tr.d).length := by simpa using hb1
    rw [List.length_map] at this
    omega
  refine G_exit (thn_exit ?_)
  refine he0 _ _ ?_
  refine blk_exit (tN (gS (gR ?_)))
  refine vq rfl qA ?_
  refine gN (tN (gT ?_))
  refine fin1 (by simp) ?_
  exact ⟨by rw [kidsB, zipIdx_all (p := fun i (k : Tr) => kindOk ((s[i]!).toNat : Nat) k.op) (fun i hi x hx => hz2 i (by have : i < ks.length := hi; omega) x hx)]; simp [hle], rfl⟩
end Go.Proofs.YtklkbfpjimeaoaaGreat
namespace Go.Proofs.YtklkbfpjimeaoaaGreat
open Go Go.Proofs.YtklkbfpjimeaoaaGreat.E
theorem c160 (op : Int) : Pf Tryz.prog 160 [.int .i64 op] (.d (.bool (op == 66))) := by
  refine pf_body (rvs := [.tmp 2]) [(0, .d (.int .i64 op))] Tryz.func160 Tryz.ntmps160 Tryz.results160 (fun S0 O0 w0 m0 hm0 => ?_)
  refine gS (gR ?_)
  refine vq rfl qA ?_
  refine gN (tN (gS (gR ?_)))
  refine vq rfl qM ?_
  refine vq rfl q_eql ?_
  refine vq rfl qA ?_
  refine gN (tN (gT ?_))
  refine fin1 (by simp) ?_
  exact ⟨rfl, rfl⟩
theorem c232 (op : Int) : Pf Tryz.prog 232 [.int .i64 op] (.d (.bool (op == 67))) := by
  refine pf_body (rvs := [.tmp 2]) [(0, .d (.int .i64 op))] Tryz.func232 Tryz.ntmps232 Tryz.results232 (fun S0 O0 w0 m0 hm0 => ?_)
  refine gS (gR ?_)
  refine vq rfl qA ?_
  refine gN (tN (gS (gR ?_)))
  refine vq rfl qM ?_
  refine vq rfl q_eql ?_
  refine vq rfl qA ?_
  refine gN (tN (gT ?_))
  refine fin1 (by simp) ?_
  exact ⟨rfl, rfl⟩
theorem c163 (op : Int) : Pf Tryz.prog 163 [.int .i64 op] (.d (.bool (isExprB op || op == 3))) := by
  refine pf_body (rvs := [.tmp 2]) [(0, .d (.int .i64 op))] Tryz.func163 Tryz.ntmps163 Tryz.results163 (fun S0 O0 w0 m0 hm0 => ?_)
  refine gS (gR ?_)
  refine vq rfl qA ?_
  refine gN (tN (gS (gR ?_)))
  refine vq rfl qM ?_
  refine gL (xs := [.tmp 3]) rfl (c74 op) ?_
  refine vq rfl qM ?_
  refine sg rfl (fun hg => qM) ?_
  refine sg rfl (fun hg => sP 6 rfl hg q_eql) ?_
  refine vq rfl q_or ?_
  refine vq rfl qA ?_
  refine gN (tN (gT ?_))
  refine fin1 (by simp) ?_
  exact ⟨rfl, rfl⟩
theorem c286 (op : Int) : Pf Tryz.prog 286 [.int .i64 op] (.d (.bool (isExprB op || op == 30))) := by
  refine pf_body (rvs := [.tmp 2]) [(0, .d (.int .i64 op))] Tryz.func286 Tryz.ntmps286 Tryz.results286 (fun S0 O0 w0 m0 hm0 => ?_)
  refine gS (gR ?_)
  refine vq rfl qA ?_
  refine gN (tN (gS (gR ?_)))
  refine vq rfl qM ?_
  refine gL (xs := [.tmp 3]) rfl (c74 op) ?_
  refine vq rfl qM ?_
  refine sg rfl (fun hg => qM) ?_
  refine sg rfl (fun hg => sP 6 rfl hg q_eql) ?_
  refine vq rfl q_or ?_
  refine vq rfl qA ?_
  refine gN (tN (gT ?_))
  refine fin1 (by simp) ?_
  exact ⟨rfl, rfl⟩
theorem c233 (t : Tr) (g : FuncId) (p : Int → Bool) (hcb : ∀ op, Pf Tryz.prog g [.int .i64 op] (.d (.bool (p op)))) : Pf Tryz.prog 233 [t.d, .ptr (.fn (.func g) [] [])] (.d (.bool (!p t.op))) := by
  obtain ⟨op, name, num, ks⟩ := t
  rw [Tr.d_mk]
  try simp only [Tr.op_mk]
  refine pf_body (rvs := [.tmp 3]) [(0, .d (.agg [.int .i64 op, .str name, .int .i64 num, .sl (ks.map Tr.d)])), (1, .d (.ptr (.fn (.func g) [] [])))] Tryz.func233 Tryz.ntmps233 Tryz.results233 (fun S0 O0 w0 m0 hm0 => ?_)
  refine gS (gR ?_)
  refine sv rfl y_box ?_
  refine gF 0 [] (.agg [.int .i64 op, .str name, .int .i64 num, .sl (ks.map Tr.d)]) rfl ?_
  refine vq rfl qA ?_
  refine gN (tN (gS (gR ?_)))
  refine vq rfl (qL u109) ?_
  refine vq rfl (qF u27 rfl sz3) ?_
  refine vq rfl (qL u3) ?_
  refine gL (xs := [.tmp 6]) rfl (hcb op) ?_
  refine vq rfl q_not ?_
  refine vq rfl qA ?_
  refine gN (tN (gT ?_))
  refine fin1 (by simp) ?_
  exact ⟨rfl, rfl⟩
def everyB (p : Int → Bool) (ks : List Tr) : Bool := !(ks.any fun k => !p k.op)
theorem Tr.kids_len {t : Tr} (h : t.Ok) : t.kids.length ≤ 140737488355328 := by cases h; assumption
theorem Tr.kids_ok {t : Tr} (h : t.Ok) : ∀ k ∈ t.kids, k.Ok := by cases h; assumption
theorem c159 (t : Tr) (g : FuncId) (p : Int → Bool) (hok : t.Ok) (hcb : ∀ op, Pf Tryz.prog g [.int .i64 op] (.d (.bool (p op)))) : Pf Tryz.prog 159 [t.d, .fn (.func g) [] []] (.d (.bool (everyB p t.kids))) := by
  obtain ⟨op, name, num, ks⟩ := t
  rw [Tr.d_mk]
  try simp only [Tr.kids_mk]
  refine pf_body (rvs := [.tmp 4]) [(0, .d (.agg [.int .i64 op, .str name, .int .i64 num, .sl (ks.map Tr.d)])), (1, .d (.fn (.func g) [] []))] Tryz.func159 Tryz.ntmps159 Tryz.results159 (fun S0 O0 w0 m0 hm0 => ?_)
  refine gS (gR ?_)
  refine sv rfl y_box ?_
  refine gF 0 [] (.agg [.int .i64 op, .str name, .int .i64 num, .sl (ks.map Tr.d)]) rfl ?_
  refine sv rfl y_box ?_
  refine gF 0 [] (.fn (.func g) [] []) rfl ?_
  refine vq rfl qA ?_
  refine gN (tN (gS (gR ?_)))
  refine vq rfl (qF u27 rfl sz22) ?_
  refine vq rfl (qL u22) ?_
  refine vq rfl (q_makeFunc (xs := []) (ys := [.tmp 3])) ?_
  refine gL (xs := [.tmp 6, .tmp 7]) rfl (c52 ks 233 [] [.ptr (.fn (.func g) [] [])] (fun k => !p k.op) (Tr.kids_len hok) (fun x hx => c233 x g p hcb)) ?_
  refine vq rfl q_not ?_
  refine vq rfl qA ?_
  refine gN (tN (gT ?_))
  refine fin1 (by simp) ?_
  exact ⟨rfl, rfl⟩
theorem c152 (t : Tr) : Pf Tryz.prog 152 [t.d] (.d (.bool true)) := by
  obtain ⟨op, name, num, ks⟩ := t
  rw [Tr.d_mk]
  try simp only [Tr.op_mk, Tr.nm_mk, Tr.nu_mk, Tr.kids_mk]
  refine pf_body (rvs := [.tmp 2]) [(0, .d (.agg [.int .i64 op, .str name, .int .i64 num, .sl (ks.map Tr.d)]))] Tryz.func152 Tryz.ntmps152 Tryz.results152 (fun S0 O0 w0 m0 hm0 => ?_)
  refine gS (gR ?_)
  refine sv rfl y_box ?_
  refine gF 0 [] (.agg [.int .i64 op, .str name, .int .i64 num, .sl (ks.map Tr.d)]) rfl ?_
  refine vq rfl qA ?_
  refine gN (tN (gS (gR ?_)))
  refine vq rfl qA ?_
  refine gN (tN (gT ?_))
  refine fin1 (by simp) ?_
  exact ⟨rfl, rfl⟩
def rule154 (t : Tr) : Bool := (t.nu == 0 || t.nu == 1) && (t.kids.length : Int) == 0
def opK (i : Nat) (ks : List Tr) : Int := match ks[i]? with | some k => k.op | none => 0
def ee : ByteArray := ⟨#[101, 101]⟩
def rule155 (t : Tr) : Bool := kidsB t.kids ee && (opK 0 t.kids == 4 || opK 0 t.kids == 12)
def rule158 (t : Tr) : Bool := decide ((t.kids.length : Int) > 0) && everyB (fun op => op == 66) t.kids
def rule161 (t : Tr) : Bool := (t.kids.length : Int) == 1 && (opK 0 t.kids == 13 || opK 0 t.kids == 15)
theorem c154 (t : Tr) : Pf Tryz.prog 154 [t.d] (.d (.bool (rule154 t))) := by
  obtain ⟨op, name, num, ks⟩ := t
  rw [Tr.d_mk]
  try simp only [Tr.op_mk, Tr.nm_mk, Tr.nu_mk, Tr.kids_mk]
  refine pf_body (rvs := [.tmp 2]) [(0, .d (.agg [.int .i64 op, .str name, .int .i64 num, .sl (ks.map Tr.d)]))] Tryz.func154 Tryz.ntmps154 Tryz.results154 (fun S0 O0 w0 m0 hm0 => ?_)
  refine gS (gR ?_)
  refine sv rfl y_box ?_
  refine gF 0 [] (.agg [.int .i64 op, .str name, .int .i64 num, .sl (ks.map Tr.d)]) rfl ?_
  refine vq rfl qA ?_
  refine gN (tN (gS (gR ?_)))
  refine vq rfl (qF u27 rfl sz3) ?_
  refine vq rfl (qL u3) ?_
  refine vq rfl q_eql ?_
  refine vq rfl qM ?_
  refine sg rfl (fun hg => qF u27 rfl sz3) ?_
  refine sg rfl (fun hg => sP 7 rfl hg (qL u3)) ?_
  refine sg rfl (fun hg => sP 8 rfl hg q_eql) ?_
  refine vq rfl q_or ?_
  refine vq rfl qM ?_
  refine sg rfl (fun hg => qF u27 rfl sz22) ?_
  refine sg rfl (fun hg => sP 12 rfl hg (qL u22)) ?_
  refine sg rfl (fun hg => sP 13 rfl hg (q_len u22)) ?_
  refine sg rfl (fun hg => sP 14 rfl hg q_eql) ?_
  refine vq rfl q_and ?_
  refine vq rfl qA ?_
  refine gN (tN (gT ?_))
  refine fin1 (by simp) ?_
  exact ⟨by simp [rule154, Tr.nu, Tr.kids], rfl⟩
theorem c155 (t : Tr) (hok : t.Ok) : Pf Tryz.prog 155 [t.d] (.d (.bool (rule155 t))) := by
  obtain ⟨op, name, num, ks⟩ := t
  rw [Tr.d_mk]
  try simp only [Tr.op_mk, Tr.nm_mk, Tr.nu_mk, Tr.kids_mk]
  refine pf_body (rvs := [.tmp 2]) [(0, .d (.agg [.int .i64 op, .str name, .int .i64 num, .sl (ks.map Tr.d)]))] Tryz.func155 Tryz.ntmps155 Tryz.results155 (fun S0 O0 w0 m0 hm0 => ?_)
  refine gS (gR ?_)
  refine sv rfl y_box ?_
  refine gF 0 [] (.agg [.int .i64 op, .str name, .int .i64 num, .sl (ks.map Tr.d)]) rfl ?_
  refine vq rfl qA ?_
  refine gN (tN (gS (gR ?_)))
  refine vq rfl (qG (by exact sz27) u27 rfl) ?_
  refine gL (xs := [.tmp 3, .const (.string ⟨#[101, 101]⟩)]) rfl ((Tr.d_mk op name num ks ▸ c156 (.mk op name num ks) ee hok)) ?_
  refine vq rfl qM ?_
  refine g_split 5 true (fun hsp => ?_) (fun hsp => ?_)
  ·
    obtain ⟨k, r, hks⟩ : ∃ k r, ks = k :: r := by
      cases hks : ks with
      | nil => exfalso; have := kidsB_len (by simpa using hsp); rw [show (Tr.mk op name num ks).kids = ks from rfl, hks] at this; exact absurd this (by decide)
      | cons k r => exact ⟨k, r, rfl⟩
    subst hks
    obtain ⟨kop, knm, knu, kks, hka⟩ := k.d_agg
    have hkop : k.op = kop := by obtain ⟨o, n, u, l⟩ := k; rw [Tr.d_mk] at hka; injection hka with hka; injection hka with hka; injection hka
    have hxa : ((k :: r).map Tr.d)[0]? = some (.agg [.int .i64 kop, .str knm, .int .i64 knu, .sl (kks.map Tr.d)]) := by rw [← hka]; rfl
    refine sgo rfl hsp (y_fieldp_leaf u27 rfl sz22) ?_
    refine sgo rfl hsp (y_loadp_leaf u22) ?_
    refine sgo rfl hsp (y_indexAddr u22 sz27) ?_
    refine sgo rfl hsp (y_fieldp_leaf u27 rfl sz3) ?_
    refine sgo rfl hsp (y_loadp_leaf u3) ?_
    refine sgo rfl hsp y_eql ?_
    refine sgo rfl hsp y_move ?_
    refine sg rfl (fun hg => qF u27 rfl sz22) ?_
    refine sg rfl (fun hg => sP 13 rfl hg (qL u22)) ?_
    refine sg rfl (fun hg => sP 14 rfl hg (qI u22 sz27)) ?_
    refine sg rfl (fun hg => sP 15 rfl hg (qF u27 rfl sz3)) ?_
    refine sg rfl (fun hg => sP 16 rfl hg (qL u3)) ?_
    refine sg rfl (fun hg => sP 17 rfl hg q_eql) ?_
    refine sgo rfl hsp y_or ?_
    refine vq rfl q_and ?_
    refine vq rfl qA ?_
    refine gN (tN (gT ?_))
    refine fin1 (by simp) ?_
    exact ⟨by simp [rule155, Tr.kids, opK, hkop], rfl⟩
  skip
  refine sgx rfl ?_ ?_
  · first | exact hsp | (rw [hsp]; rfl) | simp [hsp] | simp_all
  refine sgx rfl ?_ ?_
  · first | exact hsp | (rw [hsp]; rfl) | simp [hsp] | simp_all
  refine sgx rfl ?_ ?_
  · first | exact hsp | (rw [hsp]; rfl) | simp [hsp] | simp_all
  refine sgx rfl ?_ ?_
  · first | exact hsp | (rw [hsp]; rfl) | simp [hsp] | simp_all
  refine sgx rfl ?_ ?_
  · first | exact hsp | (rw [hsp]; rfl) | simp [hsp] | simp_all
  refine sgx rfl ?_ ?_
  · first | exact hsp | (rw [hsp]; rfl) | simp [hsp] | simp_all
  refine sgx rfl ?_ ?_
  · first | exact hsp | (rw [hsp]; rfl) | simp [hsp] | simp_all
  refine sgx rfl ?_ ?_
  · first | exact hsp | (rw [hsp]; rfl) | simp [hsp] | simp_all
  refine sgx rfl ?_ ?_
  · first | exact hsp | (rw [hsp]; rfl) | simp [hsp] | simp_all
  refine sgx rfl ?_ ?_
  · first | exact hsp | (rw [hsp]; rfl) | simp [hsp] | simp_all
  refine sgx rfl ?_ ?_
  · first | exact hsp | (rw [hsp]; rfl) | simp [hsp] | simp_all
  refine sgx rfl ?_ ?_
  · first | exact hsp | (rw [hsp]; rfl) | simp [hsp] | simp_all
  refine sgx rfl ?_ ?_
  · first | exact hsp | (rw [hsp]; rfl) | simp [hsp] | simp_all
  refine sgx rfl ?_ ?_
  · first | exact hsp | (rw [hsp]; rfl) | simp [hsp] | simp_all
  refine vq rfl q_and ?_
  refine vq rfl qA ?_
  refine gN (tN (gT ?_))
  refine fin1 (by simp) ?_
  exact ⟨by simp [rule155, Tr.kids] at hsp ⊢; simp [hsp], rfl⟩
theorem c158 (t : Tr) (hok : t.Ok) : Pf Tryz.prog 158 [t.d] (.d (.bool (rule158 t))) := by
  obtain ⟨op, name, num, ks⟩ := t
  rw [Tr.d_mk]
  try simp only [Tr.op_mk, Tr.nm_mk, Tr.nu_mk, Tr.kids_mk]
  refine pf_body (rvs := [.tmp 2]) [(0, .d (.agg [.int .i64 op, .str name, .int .i64 num, .sl (ks.map Tr.d)]))] Tryz.func158 Tryz.ntmps158 Tryz.results158 (fun S0 O0 w0 m0 hm0 => ?_)
  refine gS (gR ?_)
  refine sv rfl y_box ?_
  refine gF 0 [] (.agg [.int .i64 op, .str name, .int .i64 num, .sl (ks.map Tr.d)]) rfl ?_
  refine vq rfl qA ?_
  refine gN (tN (gS (gR ?_)))
  refine vq rfl (qF u27 rfl sz22) ?_
  refine vq rfl (qL u22) ?_
  refine vq rfl (q_len u22) ?_
  refine vq rfl q_gtr ?_
  refine vq rfl qM ?_
  refine sg rfl (fun hg => qG (by exact sz27) u27 rfl) ?_
  refine g_callg (xs := [.tmp 8, .func 160]) rfl (fun hg => (Tr.d_mk op name num ks ▸ c159 (.mk op name num ks) 160 (fun op => op == 66) hok c160)) ?_
  refine vq rfl q_and ?_
  refine vq rfl qA ?_
  refine gN (tN (gT ?_))
  refine fin1 (by simp) ?_
  exact ⟨by simp [rule158, Tr.kids], rfl⟩
theorem c161 (t : Tr) (hok : t.Ok) : Pf Tryz.prog 161 [t.d] (.d (.bool (rule161 t))) := by
  obtain ⟨op, name, num, ks⟩ := t
  rw [Tr.d_mk]
  try simp only [Tr.op_mk, Tr.nm_mk, Tr.nu_mk, Tr.kids_mk]
  refine pf_body (rvs := [.tmp 2]) [(0, .d (.agg [.int .i64 op, .str name, .int .i64 num, .sl (ks.map Tr.d)]))] Tryz.func161 Tryz.ntmps161 Tryz.results161 (fun S0 O0 w0 m0 hm0 => ?_)
  refine gS (gR ?_)
  refine sv rfl y_box ?_
  refine gF 0 [] (.agg [.int .i64 op, .str name, .int .i64 num, .sl (ks.map Tr.d)]) rfl ?_
  refine vq rfl qA ?_
  refine gN (tN (gS (gR ?_)))
  refine vq rfl (qF u27 rfl sz22) ?_
  refine vq rfl (qL u22) ?_
  refine vq rfl (q_len u22) ?_
  refine vq rfl q_eql ?_
  refine vq rfl qM ?_
  refine g_split 7 true (fun hsp => ?_) (fun hsp => ?_)
  ·
    obtain ⟨k, r, hks⟩ : ∃ k r, ks = k :: r := by
      cases hks : ks with
      | nil => exfalso; rw [hks] at hsp; exact absurd hsp (by decide)
      | cons k r => exact ⟨k, r, rfl⟩
    subst hks
    obtain ⟨kop, knm, knu, kks, hka⟩ := k.d_agg
    have hkop : k.op = kop := by obtain ⟨o, n, u, l⟩ := k; rw [Tr.d_mk] at hka; injection hka with hka; injection hka with hka; injection hka
    have hxa : ((k :: r).map Tr.d)[0]? = some (.agg [.int .i64 kop, .str knm, .int .i64 knu, .sl (kks.map Tr.d)]) := by rw [← hka]; rfl
    refine sgo rfl hsp (y_fieldp_leaf u27 rfl sz22) ?_
    refine sgo rfl hsp (y_loadp_leaf u22) ?_
    refine sgo rfl hsp (y_indexAddr u22 sz27) ?_
    refine sgo rfl hsp (y_fieldp_leaf u27 rfl sz3) ?_
    refine sgo rfl hsp (y_loadp_leaf u3) ?_
    refine sgo rfl hsp y_eql ?_
    refine sgo rfl hsp y_move ?_
    refine sg rfl (fun hg => qF u27 rfl sz22) ?_
    refine sg rfl (fun hg => sP 15 rfl hg (qL u22)) ?_
    refine sg rfl (fun hg => sP 16 rfl hg (qI u22 sz27)) ?_
    refine sg rfl (fun hg => sP 17 rfl hg (qF u27 rfl sz3)) ?_
    refine sg rfl (fun hg => sP 18 rfl hg (qL u3)) ?_
    refine sg rfl (fun hg => sP 19 rfl hg q_eql) ?_
    refine sgo rfl hsp y_or ?_
    refine vq rfl q_and ?_
    refine vq rfl qA ?_
    refine gN (tN (gT ?_))
    refine fin1 (by simp) ?_
    exact ⟨by simp [rule161, Tr.kids, opK, hkop], rfl⟩
  skip
  refine sgx rfl ?_ ?_
  · first | exact hsp | (rw [hsp]; rfl) | simp [hsp] | simp_all
  refine sgx rfl ?_ ?_
  · first | exact hsp | (rw [hsp]; rfl) | simp [hsp] | simp_all
  refine sgx rfl ?_ ?_
  · first | exact hsp | (rw [hsp]; rfl) | simp [hsp] | simp_all
  refine sgx rfl ?_ ?_
  · first | exact hsp | (rw [hsp]; rfl) | simp [hsp] | simp_all
  refine sgx rfl ?_ ?_
  · first | exact hsp | (rw [hsp]; rfl) | simp [hsp] | simp_all
  refine sgx rfl ?_ ?_
  · first | exact hsp | (rw [hsp]; rfl) | simp [hsp] | simp_all
  refine sgx rfl ?_ ?_
  · first | exact hsp | (rw [hsp]; rfl) | simp [hsp] | simp_all
  refine sgx rfl ?_ ?_
  · first | exact hsp | (rw [hsp]; rfl) | simp [hsp] | simp_all
  refine sgx rfl ?_ ?_
  · first | exact hsp | (rw [hsp]; rfl) | simp [hsp] | simp_all
  refine sgx rfl ?_ ?_
  · first | exact hsp | (rw [hsp]; rfl) | simp [hsp] | simp_all
  refine sgx rfl ?_ ?_
  · first | exact hsp | (rw [hsp]; rfl) | simp [hsp] | simp_all
  refine sgx rfl ?_ ?_
  · first | exact hsp | (rw [hsp]; rfl) | simp [hsp] | simp_all
  refine sgx rfl ?_ ?_
  · first | exact hsp | (rw [hsp]; rfl) | simp [hsp] | simp_all
  refine sgx rfl ?_ ?_
  · first | exact hsp | (rw [hsp]; rfl) | simp [hsp] | simp_all
  refine vq rfl q_and ?_
  refine vq rfl qA ?_
  refine gN (tN (gT ?_))
  refine fin1 (by simp) ?_
  exact ⟨by simp [rule161, Tr.kids] at hsp ⊢; simp [hsp], rfl⟩
theorem c162 (t : Tr) (hok : t.Ok) : Pf Tryz.prog 162 [t.d] (.d (.bool (everyB (fun op => isExprB op || op == 3) t.kids))) := by
  obtain ⟨op, name, num, ks⟩ := t
  rw [Tr.d_mk]
  try simp only [Tr.kids_mk]
  refine pf_body (rvs := [.tmp 2]) [(0, .d (.agg [.int .i64 op, .str name, .int .i64 num, .sl (ks.map Tr.d)]))] Tryz.func162 Tryz.ntmps162 Tryz.results162 (fun S0 O0 w0 m0 hm0 => ?_)
  refine gS (gR ?_)
  refine sv rfl y_box ?_
  refine gF 0 [] (.agg [.int .i64 op, .str name, .int .i64 num, .sl (ks.map Tr.d)]) rfl ?_
  refine vq rfl qA ?_
  refine gN (tN (gS (gR ?_)))
  refine vq rfl (qG (by exact sz27) u27 rfl) ?_
  refine gL (xs := [.tmp 3, .func 163]) rfl ((Tr.d_mk op name num ks ▸ c159 (.mk op name num ks) 163 (fun op => isExprB op || op == 3) hok c163)) ?_
  refine vq rfl qA ?_
  refine gN (tN (gT ?_))
  refine fin1 (by simp) ?_
  exact ⟨rfl, rfl⟩
theorem c164 (t : Tr) (hok : t.Ok) : Pf Tryz.prog 164 [t.d] (.d (.bool (everyB isStmtB t.kids))) := by
  obtain ⟨op, name, num, ks⟩ := t
  rw [Tr.d_mk]
  try simp only [Tr.kids_mk]
  refine pf_body (rvs := [.tmp 2]) [(0, .d (.agg [.int .i64 op, .str name, .int .i64 num, .sl (ks.map Tr.d)]))] Tryz.func164 Tryz.ntmps164 Tryz.results164 (fun S0 O0 w0 m0 hm0 => ?_)
  refine gS (gR ?_)
  refine sv rfl y_box ?_
  refine gF 0 [] (.agg [.int .i64 op, .str name, .int .i64 num, .sl (ks.map Tr.d)]) rfl ?_
  refine vq rfl qA ?_
  refine gN (tN (gS (gR ?_)))
  refine vq rfl (qG (by exact sz27) u27 rfl) ?_
  refine gL (xs := [.tmp 3, .func 95]) rfl ((Tr.d_mk op name num ks ▸ c159 (.mk op name num ks) 95 isStmtB hok c95)) ?_
  refine vq rfl qA ?_
  refine gN (tN (gT ?_))
  refine fin1 (by simp) ?_
  exact ⟨rfl, rfl⟩
theorem c153 (ts : List ByteArray) : Pf Tryz.prog 153 [.sl (ts.map .str)] (.d (.fn (.func 229) [] [.ptr (.sl (ts.map .str))])) := by
  refine pf_body (rvs := [.tmp 2]) [(0, .d (.sl (ts.map .str)))] Tryz.func153 Tryz.ntmps153 Tryz.results153 (fun S0 O0 w0 m0 hm0 => ?_)
  refine gS (gR ?_)
  refine sv rfl y_box ?_
  refine gF 0 [] (.sl (ts.map .str)) rfl ?_
  refine vq rfl qA ?_
  refine gN (tN (gS (gR ?_)))
  refine vq rfl (q_makeFunc (xs := []) (ys := [.tmp 1])) ?_
  refine vq rfl qA ?_
  refine gN (tN (gT ?_))
  refine find1 (by simp) ?_
  exact ⟨rfl, rfl⟩
theorem c231 (t : Tr) (s : ByteArray) (hok : t.Ok) : Pf Tryz.prog 231 [.str s, .ptr t.d] (.d (.bool (kidsB t.kids s))) := by
  obtain ⟨op, name, num, ks⟩ := t
  rw [Tr.d_mk]
  try simp only [Tr.kids_mk]
  refine pf_body (rvs := [.tmp 3]) [(0, .d (.str s)), (1, .d (.ptr (.agg [.int .i64 op, .str name, .int .i64 num, .sl (ks.map Tr.d)])))] Tryz.func231 Tryz.ntmps231 Tryz.results231 (fun S0 O0 w0 m0 hm0 => ?_)
  refine gS (gR ?_)
  refine vq rfl qA ?_
  refine gN (tN (gS (gR ?_)))
  refine vq rfl (qG (by exact sz27) u27 rfl) ?_
  refine vq rfl qM ?_
  refine gL (xs := [.tmp 4, .tmp 5]) rfl ((Tr.d_mk op name num ks ▸ c156 (.mk op name num ks) s hok)) ?_
  refine vq rfl qA ?_
  refine gN (tN (gT ?_))
  refine fin1 (by simp) ?_
  exact ⟨rfl, rfl⟩
def formsB (ts : List ByteArray) (t : Tr) : Bool := ts.any fun s => kidsB t.kids s
theorem c229 (t : Tr) (ts : List ByteArray) (hok : t.Ok) (hlim : ts.length ≤ 140737488355328) : Pf Tryz.prog 229 [t.d, .ptr (.sl (ts.map .str))] (.d (.bool (formsB ts t))) := by
  obtain ⟨op, name, num, ks⟩ := t
  rw [Tr.d_mk]
  try simp only [Tr.op_mk, Tr.nm_mk, Tr.nu_mk, Tr.kids_mk]
  refine pf_body (rvs := [.tmp 3]) [(0, .d (.agg [.int .i64 op, .str name, .int .i64 num, .sl (ks.map Tr.d)])), (1, .d (.ptr (.sl (ts.map .str))))] Tryz.func229 Tryz.ntmps229 Tryz.results229 (fun S0 O0 w0 m0 hm0 => ?_)
  refine gS (gR ?_)
  refine sv rfl y_box ?_
  refine gF 0 [] (.agg [.int .i64 op, .str name, .int .i64 num, .sl (ks.map Tr.d)]) rfl ?_
  refine vq rfl qA ?_
  refine gN (tN (gS (gR ?_)))
  refine vq rfl (qL u63) ?_
  refine vq rfl (q_makeFunc (xs := []) (ys := [.tmp 2])) ?_
  refine gL (xs := [.tmp 4, .tmp 5]) rfl (c230 ts 231 [] [.ptr (.agg [.int .i64 op, .str name, .int .i64 num, .sl (ks.map Tr.d)])] (fun s => kidsB ks s) hlim (fun x hx => Tr.d_mk op name num ks ▸ c231 (.mk op name num ks) x hok)) ?_
  refine vq rfl qA ?_
  refine gN (tN (gT ?_))
  refine fin1 (by simp) ?_
  exact ⟨rfl, rfl⟩
end Go.Proofs.YtklkbfpjimeaoaaGreat
