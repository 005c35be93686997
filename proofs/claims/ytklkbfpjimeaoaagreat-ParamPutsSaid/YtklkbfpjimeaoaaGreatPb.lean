/- Contracts of functions. Conditions: none. -/
import Derived.Test.YtklkbfpjimeaoaaGreatPa
namespace Go.Proofs.YtklkbfpjimeaoaaGreat
open Go Go.Proofs.YtklkbfpjimeaoaaGreat.E
def letterB (c : Int) : Bool := (decide (c ≥ 97) && decide (c ≤ 122)) || (decide (c ≥ 65) && decide (c ≤ 90)) || decide (c = 95)
def charOk (i : Nat) (c : Int) : Bool := letterB c || (!decide (i = 0) && (decide (c ≥ 48) && decide (c ≤ 57)))
/-- A text is a name. -/
def nameB (s : ByteArray) : Bool := !(decide ((s.size : Int) < 1) || decide ((s.size : Int) > 40)) && s.data.toList.zipIdx.all fun x => charOk x.2 (x.1.toNat : Nat)
def preB (s p : ByteArray) : Bool := decide ((s.size : Int) ≥ (p.size : Nat)) && decide (s.extract 0 p.size = p)
def trimB (s p : ByteArray) : ByteArray := if preB s p = true then s.extract p.size s.size else s
theorem zipIdx_all {α : Type} {p : Nat → α → Bool} {xs : List α} (h : ∀ i, i < xs.length → ∀ x, xs[i]? = some x → p i x = true) : (xs.zipIdx.all fun x => p x.2 x.1) = true := by
  rw [List.all_eq_true]
  rintro ⟨x, i⟩ hx
  have := List.mem_zipIdx_iff_getElem?.1 hx
  exact h i (List.getElem?_eq_some_iff.1 this).1 x this
theorem zipIdx_not {α : Type} {p : Nat → α → Bool} {xs : List α} {i : Nat} {x : α} (hx : xs[i]? = some x) (h : p i x = false) : (xs.zipIdx.all fun x => p x.2 x.1) = false := by
  rw [List.all_eq_false]
  exact ⟨(x, i), List.mem_zipIdx_iff_getElem?.2 hx, by simp [h]⟩
theorem upto_step {α : Type} {p : Nat → α → Bool} {xs : List α} {z : Nat} {x : α} (h : ∀ i, i < z → ∀ y, xs[i]? = some y → p i y = true) (hx : xs[z]? = some x) (hb : p z x = true) : ∀ i, i < z + 1 → ∀ y, xs[i]? = some y → p i y = true := fun i hi y hy => by
  by_cases hiz : i = z
  · subst hiz; rw [hx] at hy; injection hy with hy; subst hy; exact hb
  · exact h i (by omega) y hy
theorem bytesD_get {b : ByteArray} {z : Nat} {c : UInt8} (h : b.data.toList[z]? = some c) : (bytesD b)[z]? = some (.int .u8 (c.toNat : Nat)) := by unfold bytesD; rw [List.getElem?_map, h]; rfl
theorem c319 (s p : ByteArray) : Pf Tryz.prog 319 [.str s, .str p] (.d (.bool (preB s p))) := by
  refine pf_body (rvs := [.tmp 4]) [(0, .d (.str s)), (1, .d (.str p))] Tryz.func319 Tryz.ntmps319 Tryz.results319 (fun S0 O0 w0 m0 hm0 => ?_)
  refine G_seq ?_
  refine g_region ?_
  refine sv rfl (y_assign) ?_
  refine GOps_nil ?_
  refine thn_normal ?_
  refine G_seq ?_
  refine g_region ?_
  refine sv rfl (y_move) ?_
  refine sv rfl (y_lenstr Tryz.underlying9) ?_
  refine sv rfl (y_move) ?_
  refine sv rfl (y_lenstr Tryz.underlying9) ?_
  refine sv rfl (y_geq) ?_
  refine sv rfl (y_move) ?_
  refine g_split 10 true (fun hsp => ?_) (fun hsp => ?_)
  ·
    refine sgo rfl hsp (y_move) ?_
    refine sgo rfl hsp (y_move) ?_
    refine sgo rfl hsp (y_lenstr Tryz.underlying9) ?_
    refine sgo rfl hsp (Yld_pure rfl (of_decide_eq_true rfl) (q_strh Tryz.underlying9 (h1 := by simpa using hsp))) ?_
    refine sgo rfl hsp (y_move) ?_
    refine sgo rfl hsp (y_streq) ?_
    refine sv rfl (y_and) ?_
    refine sv rfl (y_assign) ?_
    refine GOps_nil ?_
    refine thn_normal ?_
    refine G_ret ?_
    refine fin1 (by simp) ?_
    exact ⟨by simp [preB], rfl⟩
  ·
    refine sgx rfl ?_ ?_
    · first | exact hsp | (rw [hsp]; rfl) | simp [hsp] | simp_all
    refine sgx rfl ?_ ?_
    · first | exact hsp | (rw [hsp]; rfl) | simp [hsp] | simp_all
    refine sgx rfl ?_ ?_
    · first | exact hsp | (rw [hsp]; rfl) | simp [hsp] | simp_all
    refine sgx rfl ?_ ?_
    · first | exact hsp | (rw [hsp]; rfl) | simp [hsp] | simp_all
    refine sgx rfl ?_ ?_
    · first | exact hsp | (rw [hsp]; rfl) | simp [hsp] | simp_all
    refine sgx rfl ?_ ?_
    · first | exact hsp | (rw [hsp]; rfl) | simp [hsp] | simp_all
    refine sv rfl (y_and) ?_
    refine sv rfl (y_assign) ?_
    refine GOps_nil ?_
    refine thn_normal ?_
    refine G_ret ?_
    refine fin1 (by simp) ?_
    exact ⟨by simp at hsp; simp [preB]; omega, rfl⟩
theorem c287 (s p : ByteArray) : Pf Tryz.prog 287 [.str s, .str p] (.d (.str (trimB s p))) := by
  refine pf_body (rvs := [.tmp 4]) [(0, .d (.str s)), (1, .d (.str p))] Tryz.func287 Tryz.ntmps287 Tryz.results287 (fun S0 O0 w0 m0 hm0 => ?_)
  refine G_seq ?_
  refine g_region ?_
  refine sv rfl (y_assign) ?_
  refine GOps_nil ?_
  refine thn_normal ?_
  refine G_seq ?_
  refine G_seq ?_
  refine g_region ?_
  refine sv rfl (y_move) ?_
  refine sv rfl (y_move) ?_
  refine g_call (xs := [.tmp 5, .tmp 6]) rfl (c319 s p) ?_
  refine GOps_nil ?_
  refine thn_normal ?_
  refine g_cond (fun hb0 => ?_) (fun hb0 => ?_)
  ·
    have hle : (p.size : Int) ≤ s.size := by
      simp only [preB, Bool.and_eq_true, decide_eq_true_eq] at hb0
      exact hb0.1
    refine G_seq ?_
    refine g_region ?_
    refine sv rfl (y_move) ?_
    refine sv rfl (y_move) ?_
    refine sv rfl (y_lenstr Tryz.underlying9) ?_
    refine sv rfl (Yld_pure rfl (of_decide_eq_true rfl) (q_strl Tryz.underlying9)) ?_
    refine sv rfl (y_assign) ?_
    refine GOps_nil ?_
    refine thn_normal ?_
    refine G_ret ?_
    refine thn_ret ?_
    refine fin1 (by simp) ?_
    exact ⟨by rw [trimB, if_pos hb0]; rfl, rfl⟩
  ·
    refine G_skip ?_
    refine thn_normal ?_
    refine G_seq ?_
    refine g_region ?_
    refine sv rfl (y_move) ?_
    refine sv rfl (y_assign) ?_
    refine GOps_nil ?_
    refine thn_normal ?_
    refine G_ret ?_
    refine fin1 (by simp) ?_
    exact ⟨by rw [trimB, if_neg (by simp [hb0])], rfl⟩
theorem c235 (s p : ByteArray) : Pf Tryz.prog 235 [.str s, .str p] (.d (.str (trimB s p))) := by
  refine pf_body (rvs := [.tmp 4]) [(0, .d (.str s)), (1, .d (.str p))] Tryz.func235 Tryz.ntmps235 Tryz.results235 (fun S0 O0 w0 m0 hm0 => ?_)
  refine G_seq ?_
  refine g_region ?_
  refine sv rfl (y_assign) ?_
  refine GOps_nil ?_
  refine thn_normal ?_
  refine G_seq ?_
  refine g_region ?_
  refine sv rfl (y_move) ?_
  refine sv rfl (y_move) ?_
  refine g_call (xs := [.tmp 5, .tmp 6]) rfl (c287 s p) ?_
  refine sv rfl (y_assign) ?_
  refine GOps_nil ?_
  refine thn_normal ?_
  refine G_ret ?_
  refine fin1 (by simp) ?_
  exact ⟨rfl, rfl⟩
set_option maxHeartbeats 1000000 in
theorem c167 (s : ByteArray) : Pf Tryz.prog 167 [.str s] (.d (.bool (nameB s))) := by
  refine pf_body (rvs := [.tmp 2]) [(0, .d (.str s))] Tryz.func167 Tryz.ntmps167 Tryz.results167 (fun S0 O0 w0 m0 hm0 => ?_)
  refine G_seq ?_
  refine g_region ?_
  refine sv rfl (y_assign) ?_
  refine GOps_nil ?_
  refine thn_normal ?_
  refine G_seq ?_
  refine G_seq ?_
  refine g_region ?_
  refine sv rfl (y_move) ?_
  refine sv rfl (y_lenstr Tryz.underlying9) ?_
  refine sv rfl (y_lss) ?_
  refine sv rfl (y_move) ?_
  refine sg rfl (fun hg => q_move) ?_
  refine sg rfl (fun hg => strip 10 (by simp only [GS.set, GS.get, List.lookup_cons, Nat.reduceBEq] <;> rfl) hg (q_lenstr Tryz.underlying9)) ?_
  refine sg rfl (fun hg => strip 11 (by simp only [GS.set, GS.get, List.lookup_cons, Nat.reduceBEq] <;> rfl) hg (q_gtr)) ?_
  refine sv rfl (y_or) ?_
  refine GOps_nil ?_
  refine thn_normal ?_
  refine g_cond (fun hb0 => ?_) (fun hb0 => ?_)
  ·
    have hnm : nameB s = false := by unfold nameB; rw [hb0]; rfl
    refine G_seq ?_
    refine g_region ?_
    refine sv rfl (y_assign) ?_
    refine GOps_nil ?_
    refine thn_normal ?_
    refine G_ret ?_
    refine thn_ret ?_
    refine fin1 (by simp) ?_
    exact ⟨by rw [hnm], rfl⟩
  ·
    have hsz : 1 ≤ s.size ∧ s.size ≤ 40 := by
      simp only [Bool.or_eq_false_iff, decide_eq_false_iff_not] at hb0
      omega
    refine G_skip ?_
    refine thn_normal ?_
    refine G_seq ?_
    refine G_seq ?_
    refine g_region ?_
    refine sv rfl (y_move) ?_
    refine sv rfl (y_strbytes Tryz.underlying9 Tryz.underlying243 Tryz.underlying5) ?_
    refine sv rfl (y_len Tryz.underlying243) ?_
    refine sv rfl (y_move) ?_
    refine GOps_nil ?_
    refine thn_normal ?_
    refine G_block ?_
    refine g_loop (α := Nat) (fun z => ⟨[(17, .d (.int .i64 (z : Nat))), (16, .d (.int .i64 ((bytesD s).length : Nat))), (15, .d (.sl (bytesD s)))], []⟩) (fun z => s.size - z) (fun z => z ≤ s.size ∧ ∀ i, i < z → ∀ c, s.data.toList[i]? = some c → charOk i (c.toNat : Nat) = true) 0 ⟨Nat.zero_le _, by simp⟩ (fun z hz Q' hn0 he0 hr0 => ?_) (le_of)
    obtain ⟨hz1, hz2⟩ := hz
    have hbl := bytesD_length s
    refine G_seq ?_
    refine g_region ?_
    refine sv rfl (y_lss) ?_
    refine GOps_nil ?_
    refine thn_normal ?_
    refine G_seq ?_
    refine g_cond (fun hb1 => ?_) (fun hb1 => ?_)
    ·
      have hlt : z < s.size := by
        have : (z : Int) < ((bytesD s).length : Nat) := by simpa using hb1
        omega
      obtain ⟨c, hc⟩ : ∃ c, s.data.toList[z]? = some c := ⟨_, List.getElem?_eq_getElem (by rw [bytes_len]; exact hlt)⟩
      have hcd := bytesD_get hc
      refine G_skip ?_
      refine thn_normal ?_
      refine G_seq ?_
      refine G_block ?_
      refine G_seq ?_
      refine g_region ?_
      refine sv rfl (y_move) ?_
      refine sv rfl (y_indexAddr Tryz.underlying243 sz5) ?_
      first | refine sv rfl (y_load_leaf Tryz.underlying5) ?_ | refine sv rfl (y_loadp_leaf Tryz.underlying5) ?_
      refine sv rfl (y_assign) ?_
      refine sv rfl (y_assign) ?_
      refine GOps_nil ?_
      refine thn_normal ?_
      refine G_seq ?_
      refine g_region ?_
      refine sv rfl (y_move) ?_
      refine sv rfl (y_geq) ?_
      refine sv rfl (y_move) ?_
      refine sg rfl (fun hg => q_move) ?_
      refine sg rfl (fun hg => strip 25 (by simp only [GS.set, GS.get, List.lookup_cons, Nat.reduceBEq] <;> rfl) hg (q_leq)) ?_
      refine sv rfl (y_and) ?_
      refine sv rfl (y_move) ?_
      refine sg rfl (fun hg => q_move) ?_
      refine sg rfl (fun hg => strip 29 (by simp only [GS.set, GS.get, List.lookup_cons, Nat.reduceBEq] <;> rfl) hg (q_geq)) ?_
      refine sg rfl (fun hg => strip 30 (by simp only [GS.set, GS.get, List.lookup_cons, Nat.reduceBEq] <;> rfl) hg (q_move)) ?_
      refine sg rfl (fun hg => q_move) ?_
      refine sg rfl (fun hg => strip 32 (by simp only [GS.set, GS.get, List.lookup_cons, Nat.reduceBEq] <;> rfl) hg (q_leq)) ?_
      refine sg rfl (fun hg => strip 31 (by simp only [GS.set, GS.get, List.lookup_cons, Nat.reduceBEq] <;> rfl) hg (q_and)) ?_
      refine sv rfl (y_or) ?_
      refine sv rfl (y_move) ?_
      refine sg rfl (fun hg => q_move) ?_
      refine sg rfl (fun hg => strip 37 (by simp only [GS.set, GS.get, List.lookup_cons, Nat.reduceBEq] <;> rfl) hg (q_eql)) ?_
      refine sv rfl (y_or) ?_
      refine sv rfl (y_assign) ?_
      refine GOps_nil ?_
      refine thn_normal ?_
      refine G_seq ?_
      refine g_keep [0, 2, 3, 4, 5, 15, 16, 17] ?_
      refine g_region ?_
      refine sv rfl (y_move) ?_
      refine sv rfl (y_not) ?_
      refine sv rfl (y_move) ?_
      refine sg rfl (fun hg => q_move) ?_
      refine sg rfl (fun hg => strip 43 (by simp only [GS.set, GS.get, List.lookup_cons, Nat.reduceBEq] <;> rfl) hg (q_eql)) ?_
      refine sg rfl (fun hg => strip 44 (by simp only [GS.set, GS.get, List.lookup_cons, Nat.reduceBEq] <;> rfl) hg (q_move)) ?_
      refine sg rfl (fun hg => q_move) ?_
      refine sg rfl (fun hg => strip 46 (by simp only [GS.set, GS.get, List.lookup_cons, Nat.reduceBEq] <;> rfl) hg (q_lss)) ?_
      refine sg rfl (fun hg => strip 45 (by simp only [GS.set, GS.get, List.lookup_cons, Nat.reduceBEq] <;> rfl) hg (q_or)) ?_
      refine sg rfl (fun hg => strip 48 (by simp only [GS.set, GS.get, List.lookup_cons, Nat.reduceBEq] <;> rfl) hg (q_move)) ?_
      refine sg rfl (fun hg => q_move) ?_
      refine sg rfl (fun hg => strip 50 (by simp only [GS.set, GS.get, List.lookup_cons, Nat.reduceBEq] <;> rfl) hg (q_gtr)) ?_
      refine sg rfl (fun hg => strip 49 (by simp only [GS.set, GS.get, List.lookup_cons, Nat.reduceBEq] <;> rfl) hg (q_or)) ?_
      refine sv rfl (y_and) ?_
      refine GOps_nil ?_
      refine thn_normal ?_
      refine g_cond (fun hb2 => ?_) (fun hb2 => ?_)
      ·
        have hch : charOk z (c.toNat : Nat) = false := by
          simp only [Bool.and_eq_true, Bool.or_eq_true, Bool.not_eq_true', Bool.or_eq_false_iff, Bool.and_eq_false_iff, decide_eq_true_eq, decide_eq_false_iff_not, beq_iff_eq, beq_eq_false_iff_ne, bne_iff_ne, bne_eq_false_iff_eq] at hb2
          simp only [charOk, letterB, Bool.or_eq_false_iff, Bool.and_eq_false_iff, Bool.not_eq_false', decide_eq_true_eq, decide_eq_false_iff_not]
          omega
        refine G_seq ?_
        refine g_keep [0, 2, 3, 4, 5, 15, 16, 17] ?_
        refine g_region ?_
        refine sv rfl (y_assign) ?_
        refine GOps_nil ?_
        refine thn_normal ?_
        refine G_ret ?_
        refine blk_ret ?_
        refine thn_ret ?_
        refine hr0 _ ?_
        refine blk_ret ?_
        refine thn_ret ?_
        refine fin1 (by simp) ?_
        exact ⟨by rw [nameB, zipIdx_not (p := fun i (c : UInt8) => charOk i (c.toNat : Nat)) hc hch, Bool.and_false], rfl⟩
      ·
        have hch : charOk z (c.toNat : Nat) = true := by
          simp only [Bool.and_eq_false_iff, Bool.or_eq_false_iff, Bool.not_eq_false', Bool.or_eq_true, Bool.and_eq_true, decide_eq_true_eq, decide_eq_false_iff_not, beq_iff_eq, beq_eq_false_iff_ne, bne_iff_ne, bne_eq_false_iff_eq] at hb2
          simp only [charOk, letterB, Bool.or_eq_true, Bool.and_eq_true, Bool.not_eq_true', decide_eq_true_eq, decide_eq_false_iff_not]
          omega
        refine G_skip ?_
        refine blk_normal ?_
        refine thn_normal ?_
        refine g_keep [0, 2, 3, 4, 5, 15, 16, 17] ?_
        refine g_region ?_
        refine sv rfl (y_add) ?_
        refine sv rfl (y_move) ?_
        refine GOps_nil ?_
        refine hn0 _ (z + 1) ⟨by omega, upto_step (p := fun i (c : UInt8) => charOk i (c.toNat : Nat)) hz2 hc hch⟩ (by omega) le_of
    ·
      have hge : z = s.size := by
        have : ¬ (z : Int) < ((bytesD s).length : Nat) := by simpa using hb1
        omega
      refine G_exit ?_
      refine thn_exit ?_
      refine he0 _ _ ?_
      refine blk_exit ?_
      refine thn_normal ?_
      refine G_seq ?_
      refine g_region ?_
      refine sv rfl (y_assign) ?_
      refine GOps_nil ?_
      refine thn_normal ?_
      refine G_ret ?_
      refine fin1 (by simp) ?_
      exact ⟨by rw [nameB, zipIdx_all (p := fun i (c : UInt8) => charOk i (c.toNat : Nat)) (fun i hi x hx => hz2 i (by rw [bytes_len] at hi; omega) x hx)]; simp; omega, rfl⟩
def hasB (ns : List ByteArray) (n : ByteArray) : Bool := ns.any fun s => decide (n = s)
theorem strs_get {ns : List ByteArray} {z : Nat} {s : ByteArray} (h : ns[z]? = some s) : (ns.map D.str)[z]? = some (.str s) := by rw [List.getElem?_map, h]; rfl
theorem c260 (ts : List ByteArray) (v : ByteArray) (hlim : ts.length ≤ 140737488355328) : Pf Tryz.prog 260 [.sl (ts.map .str), .str v] (.d (.int .i64 (idxL (fun s => decide (v = s)) ts))) := by
  refine pf_body (rvs := [.tmp 4]) [(0, .d (.sl (ts.map .str))), (1, .d (.str v))] Tryz.func260 Tryz.ntmps260 Tryz.results260 (fun S0 O0 w0 m0 hm0 => ?_)
  refine G_seq ?_
  refine g_region ?_
  refine sv rfl (y_assign) ?_
  refine GOps_nil ?_
  refine thn_normal ?_
  refine G_seq ?_
  refine G_seq ?_
  refine g_region ?_
  refine sv rfl (y_move) ?_
  refine sv rfl (y_len Tryz.underlying63) ?_
  refine sv rfl (y_move) ?_
  refine GOps_nil ?_
  refine thn_normal ?_
  refine G_block ?_
  refine g_loop (α := Nat) (fun z => ⟨[(8, .d (.int .i64 (z : Nat))), (7, .d (.int .i64 ((ts.map D.str).length : Nat))), (6, .d (.sl (ts.map .str))), (1, .d (.str v)), (0, .d (.sl (ts.map .str)))], []⟩) (fun z => ts.length - z) (fun z => z ≤ ts.length ∧ ∀ i, i < z → ∀ x, ts[i]? = some x → (fun s => decide (v = s)) x = false) 0 ⟨Nat.zero_le _, by simp⟩ (fun z hz Q' hn0 he0 hr0 => ?_) (le_of)
  obtain ⟨hz1, hz2⟩ := hz
  refine G_seq ?_
  refine g_region ?_
  refine sv rfl (y_lss) ?_
  refine GOps_nil ?_
  refine thn_normal ?_
  refine G_seq ?_
  refine g_cond (fun hb0 => ?_) (fun hb0 => ?_)
  ·
    have hlt : z < ts.length := by simpa using hb0
    obtain ⟨x, hx⟩ : ∃ x, ts[z]? = some x := ⟨_, List.getElem?_eq_getElem hlt⟩
    have hmem := List.mem_of_getElem? hx
    have hxd := strs_get hx
    refine G_skip ?_
    refine thn_normal ?_
    refine G_seq ?_
    refine G_block ?_
    refine G_seq ?_
    refine g_region ?_
    refine sv rfl (y_move) ?_
    refine sv rfl (y_assign) ?_
    refine GOps_nil ?_
    refine thn_normal ?_
    refine G_seq ?_
    refine g_region ?_
    refine sv rfl (y_move) ?_
    refine sv rfl (y_move) ?_
    refine sv rfl (y_move) ?_
    refine sv rfl (y_indexAddr Tryz.underlying63 sz9) ?_
    first | refine sv rfl (y_load_leaf Tryz.underlying9) ?_ | refine sv rfl (y_loadp_leaf Tryz.underlying9) ?_
    refine sv rfl (y_streq) ?_
    refine GOps_nil ?_
    refine thn_normal ?_
    refine g_cond (fun hb1 => ?_) (fun hb1 => ?_)
    ·
      refine G_seq ?_
      refine g_region ?_
      refine sv rfl (y_move) ?_
      refine sv rfl (y_assign) ?_
      refine GOps_nil ?_
      refine thn_normal ?_
      refine G_ret ?_
      refine blk_ret ?_
      refine thn_ret ?_
      refine hr0 _ ?_
      refine blk_ret ?_
      refine thn_ret ?_
      exact fin1 (by simp) ⟨idxL_found hz2 hx hb1, rfl⟩
    ·
      refine G_skip ?_
      refine blk_normal ?_
      refine thn_normal ?_
      refine g_region ?_
      refine sv rfl (y_add) ?_
      refine sv rfl (y_move) ?_
      refine GOps_nil ?_
      refine hn0 _ (z + 1) ⟨by omega, idxL_step hz2 hx hb1⟩ (by omega) le_of
  ·
    have hge : z = ts.length := by
      have : ¬ (z : Int) < (ts.map D.str).length := by simpa using hb0
      rw [List.length_map] at this
      omega
    refine G_exit ?_
    refine thn_exit ?_
    refine he0 _ _ ?_
    refine blk_exit ?_
    refine thn_normal ?_
    refine G_seq ?_
    refine g_region ?_
    refine sv rfl (y_assign) ?_
    refine GOps_nil ?_
    refine thn_normal ?_
    refine G_ret ?_
    exact fin1 (by simp) ⟨idxL_none (hge ▸ hz2), rfl⟩
theorem c282 (ts : List ByteArray) (g : FuncId) (fa fc : List D) (p : ByteArray → Bool) (hlim : ts.length ≤ 140737488355328)
    (hcb : ∀ x ∈ ts, Pf Tryz.prog g (fa ++ [.str x] ++ fc) (.d (.bool (p x)))) : Pf Tryz.prog 282 [.sl (ts.map .str), .fn (.func g) fa fc] (.d (.int .i64 (idxL p ts))) := by
  refine pf_body (rvs := [.tmp 4]) [(0, .d (.sl (ts.map .str))), (1, .d (.fn (.func g) fa fc))] Tryz.func282 Tryz.ntmps282 Tryz.results282 (fun S0 O0 w0 m0 hm0 => ?_)
  refine G_seq ?_
  refine g_region ?_
  refine sv rfl (y_assign) ?_
  refine GOps_nil ?_
  refine thn_normal ?_
  refine G_seq ?_
  refine G_seq ?_
  refine g_region ?_
  refine sv rfl (y_move) ?_
  refine sv rfl (y_len Tryz.underlying63) ?_
  refine sv rfl (y_move) ?_
  refine GOps_nil ?_
  refine thn_normal ?_
  refine G_block ?_
  refine g_loop (α := Nat) (fun z => ⟨[(8, .d (.int .i64 (z : Nat))), (7, .d (.int .i64 ((ts.map D.str).length : Nat))), (6, .d (.sl (ts.map .str))), (1, .d (.fn (.func g) fa fc)), (0, .d (.sl (ts.map .str)))], []⟩) (fun z => ts.length - z) (fun z => z ≤ ts.length ∧ ∀ i, i < z → ∀ x, ts[i]? = some x → p x = false) 0 ⟨Nat.zero_le _, by simp⟩ (fun z hz Q' hn0 he0 hr0 => ?_) (le_of)
  obtain ⟨hz1, hz2⟩ := hz
  refine G_seq ?_
  refine g_region ?_
  refine sv rfl (y_lss) ?_
  refine GOps_nil ?_
  refine thn_normal ?_
  refine G_seq ?_
  refine g_cond (fun hb0 => ?_) (fun hb0 => ?_)
  ·
    have hlt : z < ts.length := by simpa using hb0
    obtain ⟨x, hx⟩ : ∃ x, ts[z]? = some x := ⟨_, List.getElem?_eq_getElem hlt⟩
    have hmem := List.mem_of_getElem? hx
    have hxd := strs_get hx
    refine G_skip ?_
    refine thn_normal ?_
    refine G_seq ?_
    refine G_block ?_
    refine G_seq ?_
    refine g_region ?_
    refine sv rfl (y_move) ?_
    refine sv rfl (y_assign) ?_
    refine GOps_nil ?_
    refine thn_normal ?_
    refine G_seq ?_
    refine g_region ?_
    refine sv rfl (y_move) ?_
    refine sv rfl (y_move) ?_
    refine sv rfl (y_move) ?_
    refine sv rfl (y_indexAddr Tryz.underlying63 sz9) ?_
    first | refine sv rfl (y_load_leaf Tryz.underlying9) ?_ | refine sv rfl (y_loadp_leaf Tryz.underlying9) ?_
    refine g_call (xs := [.tmp 15]) rfl (hcb x hmem) ?_
    refine GOps_nil ?_
    refine thn_normal ?_
    refine g_cond (fun hb1 => ?_) (fun hb1 => ?_)
    ·
      refine G_seq ?_
      refine g_region ?_
      refine sv rfl (y_move) ?_
      refine sv rfl (y_assign) ?_
      refine GOps_nil ?_
      refine thn_normal ?_
      refine G_ret ?_
      refine blk_ret ?_
      refine thn_ret ?_
      refine hr0 _ ?_
      refine blk_ret ?_
      refine thn_ret ?_
      exact fin1 (by simp) ⟨idxL_found hz2 hx hb1, rfl⟩
    ·
      refine G_skip ?_
      refine blk_normal ?_
      refine thn_normal ?_
      refine g_region ?_
      refine sv rfl (y_add) ?_
      refine sv rfl (y_move) ?_
      refine GOps_nil ?_
      refine hn0 _ (z + 1) ⟨by omega, idxL_step hz2 hx hb1⟩ (by omega) le_of
  ·
    have hge : z = ts.length := by
      have : ¬ (z : Int) < (ts.map D.str).length := by simpa using hb0
      rw [List.length_map] at this
      omega
    refine G_exit ?_
    refine thn_exit ?_
    refine he0 _ _ ?_
    refine blk_exit ?_
    refine thn_normal ?_
    refine G_seq ?_
    refine g_region ?_
    refine sv rfl (y_assign) ?_
    refine GOps_nil ?_
    refine thn_normal ?_
    refine G_ret ?_
    exact fin1 (by simp) ⟨idxL_none (hge ▸ hz2), rfl⟩
theorem c199 (ts : List ByteArray) (v : ByteArray) (hlim : ts.length ≤ 140737488355328) : Pf Tryz.prog 199 [.sl (ts.map .str), .str v] (.d (.bool (hasB ts v))) := by
  refine pf_body (rvs := [.tmp 4]) [(0, .d (.sl (ts.map .str))), (1, .d (.str v))] Tryz.func199 Tryz.ntmps199 Tryz.results199 (fun S0 O0 w0 m0 hm0 => ?_)
  refine G_seq ?_
  refine g_region ?_
  refine sv rfl (y_assign) ?_
  refine GOps_nil ?_
  refine thn_normal ?_
  refine G_seq ?_
  refine g_region ?_
  refine sv rfl (y_move) ?_
  refine sv rfl (y_move) ?_
  refine g_call (xs := [.tmp 5, .tmp 6]) rfl (c260 ts v hlim) ?_
  refine sv rfl (y_geq) ?_
  refine sv rfl (y_assign) ?_
  refine GOps_nil ?_
  refine thn_normal ?_
  refine G_ret ?_
  refine fin1 (by simp) ?_
  exact ⟨by rw [idxL_any]; rfl, rfl⟩
theorem c230 (ts : List ByteArray) (g : FuncId) (fa fc : List D) (p : ByteArray → Bool) (hlim : ts.length ≤ 140737488355328)
    (hcb : ∀ x ∈ ts, Pf Tryz.prog g (fa ++ [.str x] ++ fc) (.d (.bool (p x)))) : Pf Tryz.prog 230 [.sl (ts.map .str), .fn (.func g) fa fc] (.d (.bool (ts.any p))) := by
  refine pf_body (rvs := [.tmp 4]) [(0, .d (.sl (ts.map .str))), (1, .d (.fn (.func g) fa fc))] Tryz.func230 Tryz.ntmps230 Tryz.results230 (fun S0 O0 w0 m0 hm0 => ?_)
  refine G_seq ?_
  refine g_region ?_
  refine sv rfl (y_assign) ?_
  refine GOps_nil ?_
  refine thn_normal ?_
  refine G_seq ?_
  refine g_region ?_
  refine sv rfl (y_move) ?_
  refine sv rfl (y_move) ?_
  refine g_call (xs := [.tmp 5, .tmp 6]) rfl (c282 ts g fa fc p hlim hcb) ?_
  refine sv rfl (y_geq) ?_
  refine sv rfl (y_assign) ?_
  refine GOps_nil ?_
  refine thn_normal ?_
  refine G_ret ?_
  refine fin1 (by simp) ?_
  exact ⟨by rw [idxL_any], rfl⟩
def kindOk (c : Int) (op : Int) : Bool := if c = 101 then isExprB op else if c = 98 then decide (op = 66) else if c = 110 then decide (op = 4) else true
/-- The Kids of a node are as a text says. -/
def kidsB (ks : List Tr) (s : ByteArray) : Bool := decide (ks.length = s.size) && ks.zipIdx.all fun x => kindOk ((s[x.2]!).toNat : Nat) x.1.op
theorem kidsB_len {ks : List Tr} {s : ByteArray} (h : kidsB ks s = true) : ks.length = s.size := by
  unfold kidsB at h
  rw [Bool.and_eq_true, decide_eq_true_eq] at h
  exact h.1
set_option maxHeartbeats 4000000 in
theorem c156 (t : Tr) (s : ByteArray) (hok : t.Ok) : Pf Tryz.prog 156 [t.d, .str s] (.d (.bool (kidsB t.kids s))) := by
  obtain ⟨op, name, num, ks⟩ := t
  rw [Tr.d_mk]
  try simp only [Tr.op_mk, Tr.nm_mk, Tr.nu_mk, Tr.kids_mk]
  cases hok with | mk h1 h2 h3 h4 h5 =>
  refine pf_body (rvs := [.tmp 4]) [(0, .d (.agg [.int .i64 op, .str name, .int .i64 num, .sl (ks.map Tr.d)])), (1, .d (.str s))] Tryz.func156 Tryz.ntmps156 Tryz.results156 (fun S0 O0 w0 m0 hm0 => ?_)
  refine G_seq ?_
  refine g_region ?_
  refine sv rfl (y_box) ?_
  refine g_freeze 0 [] (.agg [.int .i64 op, .str name, .int .i64 num, .sl (ks.map Tr.d)]) rfl ?_
  refine sv rfl (y_assign) ?_
  refine GOps_nil ?_
  refine thn_normal ?_
  refine G_seq ?_
  refine G_seq ?_
  refine g_region ?_
  first | refine sv rfl (y_fieldAt 3 Tryz.underlying27 rfl sz22) ?_ | refine sv rfl (y_fieldAddr Tryz.underlying27 rfl sz22) ?_ | refine sv rfl (y_fieldp_leaf Tryz.underlying27 rfl sz22) ?_
  first | refine sv rfl (y_load_leaf Tryz.underlying22) ?_ | refine sv rfl (y_loadp_leaf Tryz.underlying22) ?_
  refine sv rfl (y_len Tryz.underlying22) ?_
  refine sv rfl (y_move) ?_
  refine sv rfl (y_lenstr Tryz.underlying9) ?_
  refine sv rfl (y_neq) ?_
  refine GOps_nil ?_
  refine thn_normal ?_
  refine g_cond (fun hb0 => ?_) (fun hb0 => ?_)
  ·
    have hne : ¬ ks.length = s.size := by
      simp at hb0
      omega
    refine G_seq ?_
    refine g_region ?_
    refine sv rfl (y_assign) ?_
    refine GOps_nil ?_
    refine thn_normal ?_
    refine G_ret ?_
    refine thn_ret ?_
    refine fin1 (by simp) ?_
    exact ⟨by rw [kidsB]; simp [Tr.kids, hne], rfl⟩
  ·
    have hle : ks.length = s.size := by
      simp at hb0
      omega
    refine G_skip ?_
    refine thn_normal ?_
    refine G_seq ?_
    refine G_seq ?_
    refine g_region ?_
    first | refine sv rfl (y_fieldAt 3 Tryz.underlying27 rfl sz22) ?_ | refine sv rfl (y_fieldAddr Tryz.underlying27 rfl sz22) ?_ | refine sv rfl (y_fieldp_leaf Tryz.underlying27 rfl sz22) ?_
    first | refine sv rfl (y_load_leaf Tryz.underlying22) ?_ | refine sv rfl (y_loadp_leaf Tryz.underlying22) ?_
    refine sv rfl (y_len Tryz.underlying22) ?_
    refine sv rfl (y_move) ?_
    refine GOps_nil ?_
    refine thn_normal ?_
    refine G_block ?_
    refine g_loop (α := Nat) (fun z => ⟨[(16, .d (.int .i64 (z : Nat))), (15, .d (.int .i64 ((ks.map Tr.d).length : Nat))), (14, .d (.sl (ks.map Tr.d))), (1, .d (.str s))], []⟩) (fun z => ks.length - z) (fun z => z ≤ ks.length ∧ ∀ i, i < z → ∀ k, ks[i]? = some k → kindOk ((s[i]!).toNat : Nat) k.op = true) 0 ⟨Nat.zero_le _, by simp⟩ (fun z hz Q' hn0 he0 hr0 => ?_) (le_of)
    obtain ⟨hz1, hz2⟩ := hz
    refine G_seq ?_
    refine g_region ?_
    refine sv rfl (y_lss) ?_
    refine GOps_nil ?_
    refine thn_normal ?_
    refine G_seq ?_
    refine g_cond (fun hb1 => ?_) (fun hb1 => ?_)
    ·
      have hlt : z < ks.length := by simpa using hb1
      obtain ⟨k, hk⟩ : ∃ k, ks[z]? = some k := ⟨_, List.getElem?_eq_getElem hlt⟩
      have hmem := List.mem_of_getElem? hk
      have hxd := Tr.ds_get hk
      have hxa := hxd
      obtain ⟨kop, knm, knu, kks, hka⟩ := k.d_agg
      rw [hka] at hxa
      have hkop : k.op = kop := by obtain ⟨o, n, u, l⟩ := k; rw [Tr.d_mk] at hka; injection hka with hka; injection hka with hka; injection hka
      refine G_skip ?_
      refine thn_normal ?_
      refine G_seq ?_
      refine G_block ?_
      refine G_seq ?_
      refine g_region ?_
      refine sv rfl (y_move) ?_
      refine sv rfl (y_indexAddr Tryz.underlying22 sz27) ?_
      first | refine sv rfl (y_load_agg sz27 Tryz.underlying27 rfl) ?_ | refine sv rfl (y_loadp_agg (by exact sz27) Tryz.underlying27 rfl) ?_
      refine sv rfl (y_alloc zr27) ?_
      refine sv rfl (y_assign) ?_
      first | refine sa rfl (d_store sz27) ?_ | refine sa rfl (d_store_take sz27) ?_
      refine g_freeze 0 [] (.agg [.int .i64 kop, .str knm, .int .i64 knu, .sl (kks.map Tr.d)]) rfl ?_
      refine GOps_nil ?_
      refine thn_normal ?_
      refine G_seq ?_
      refine g_region ?_
      refine sv rfl (y_move) ?_
      refine sv rfl (y_move) ?_
      refine sv rfl (Yld_pure rfl (of_decide_eq_true rfl) (q_strindex Tryz.underlying9 (h0 := by omega) (h1 := by omega))) ?_
      rw [Int.toNat_natCast]
      refine GOps_nil ?_
      refine thn_normal ?_
      refine G_block ?_
      refine G_seq ?_
      refine g_region ?_
      refine sv rfl (y_eql) ?_
      refine sv rfl (y_assign) ?_
      refine GOps_nil ?_
      refine thn_normal ?_
      refine g_cond (fun hb2 => ?_) (fun hb2 => ?_)
      ·
        refine G_seq ?_
        refine g_keep [0, 1, 2, 4, 5, 6, 14, 15, 16, 23] ?_
        refine g_region ?_
        first | refine sv rfl (y_fieldAt 0 Tryz.underlying27 rfl sz3) ?_ | refine sv rfl (y_fieldAddr Tryz.underlying27 rfl sz3) ?_ | refine sv rfl (y_fieldp_leaf Tryz.underlying27 rfl sz3) ?_
        first | refine sv rfl (y_load_leaf Tryz.underlying3) ?_ | refine sv rfl (y_loadp_leaf Tryz.underlying3) ?_
        refine g_call (xs := [.tmp 27]) rfl (c74 kop) ?_
        refine sv rfl (y_not) ?_
        refine GOps_nil ?_
        refine thn_normal ?_
        refine g_cond (fun hb3 => ?_) (fun hb3 => ?_)
        ·
          refine G_seq ?_
          refine g_region ?_
          refine sv rfl (y_assign) ?_
          refine GOps_nil ?_
          refine thn_normal ?_
          refine G_ret ?_
          refine blk_ret ?_
          refine blk_ret ?_
          refine thn_ret ?_
          refine hr0 _ ?_
          refine blk_ret ?_
          refine thn_ret ?_
          refine fin1 (by simp) ?_
          exact ⟨by rw [kidsB, zipIdx_not (p := fun i (k : Tr) => kindOk ((s[i]!).toNat : Nat) k.op) hk (by rw [hkop]; unfold kindOk; rw [if_pos (of_decide_eq_true hb2)]; simpa using hb3), Bool.and_false], rfl⟩
        ·
          refine G_skip ?_
          refine blk_normal ?_
          refine blk_normal ?_
          refine thn_normal ?_
          refine g_region ?_
          refine sv rfl (y_add) ?_
          refine sv rfl (y_move) ?_
          refine GOps_nil ?_
          refine hn0 _ (z + 1) ⟨by omega, upto_step (p := fun i (k : Tr) => kindOk ((s[i]!).toNat : Nat) k.op) hz2 hk (by rw [hkop]; unfold kindOk; rw [if_pos (of_decide_eq_true hb2)]; simpa using hb3)⟩ (by omega) le_of
      ·
        refine G_seq ?_
        refine g_keep [0, 1, 2, 4, 5, 6, 14, 15, 16, 23] ?_
        refine g_region ?_
        refine sv rfl (y_eql) ?_
        refine sv rfl (y_assign) ?_
        refine GOps_nil ?_
        refine thn_normal ?_
        refine g_cond (fun hb4 => ?_) (fun hb4 => ?_)
        ·
          refine G_seq ?_
          refine g_region ?_
          first | refine sv rfl (y_fieldAt 0 Tryz.underlying27 rfl sz3) ?_ | refine sv rfl (y_fieldAddr Tryz.underlying27 rfl sz3) ?_ | refine sv rfl (y_fieldp_leaf Tryz.underlying27 rfl sz3) ?_
          first | refine sv rfl (y_load_leaf Tryz.underlying3) ?_ | refine sv rfl (y_loadp_leaf Tryz.underlying3) ?_
          refine sv rfl (y_neq) ?_
          refine GOps_nil ?_
          refine thn_normal ?_
          refine g_cond (fun hb5 => ?_) (fun hb5 => ?_)
          ·
            refine G_seq ?_
            refine g_region ?_
            refine sv rfl (y_assign) ?_
            refine GOps_nil ?_
            refine thn_normal ?_
            refine G_ret ?_
            refine blk_ret ?_
            refine blk_ret ?_
            refine thn_ret ?_
            refine hr0 _ ?_
            refine blk_ret ?_
            refine thn_ret ?_
            refine fin1 (by simp) ?_
            exact ⟨by rw [kidsB, zipIdx_not (p := fun i (k : Tr) => kindOk ((s[i]!).toNat : Nat) k.op) hk (by rw [hkop]; unfold kindOk; rw [if_neg (of_decide_eq_false hb2), if_pos (of_decide_eq_true hb4)]; simpa using hb5), Bool.and_false], rfl⟩
          ·
            refine G_skip ?_
            refine blk_normal ?_
            refine blk_normal ?_
            refine thn_normal ?_
            refine g_region ?_
            refine sv rfl (y_add) ?_
            refine sv rfl (y_move) ?_
            refine GOps_nil ?_
            refine hn0 _ (z + 1) ⟨by omega, upto_step (p := fun i (k : Tr) => kindOk ((s[i]!).toNat : Nat) k.op) hz2 hk (by rw [hkop]; unfold kindOk; rw [if_neg (of_decide_eq_false hb2), if_pos (of_decide_eq_true hb4)]; simpa using hb5)⟩ (by omega) le_of
        ·
          refine G_seq ?_
          refine g_region ?_
          refine sv rfl (y_eql) ?_
          refine sv rfl (y_assign) ?_
          refine GOps_nil ?_
          refine thn_normal ?_
          refine g_cond (fun hb6 => ?_) (fun hb6 => ?_)
          ·
            refine G_seq ?_
            refine g_region ?_
            first | refine sv rfl (y_fieldAt 0 Tryz.underlying27 rfl sz3) ?_ | refine sv rfl (y_fieldAddr Tryz.underlying27 rfl sz3) ?_ | refine sv rfl (y_fieldp_leaf Tryz.underlying27 rfl sz3) ?_
            first | refine sv rfl (y_load_leaf Tryz.underlying3) ?_ | refine sv rfl (y_loadp_leaf Tryz.underlying3) ?_
            refine sv rfl (y_neq) ?_
            refine GOps_nil ?_
            refine thn_normal ?_
            refine g_cond (fun hb7 => ?_) (fun hb7 => ?_)
            ·
              refine G_seq ?_
              refine g_region ?_
              refine sv rfl (y_assign) ?_
              refine GOps_nil ?_
              refine thn_normal ?_
              refine G_ret ?_
              refine blk_ret ?_
              refine blk_ret ?_
              refine thn_ret ?_
              refine hr0 _ ?_
              refine blk_ret ?_
              refine thn_ret ?_
              refine fin1 (by simp) ?_
              exact ⟨by rw [kidsB, zipIdx_not (p := fun i (k : Tr) => kindOk ((s[i]!).toNat : Nat) k.op) hk (by rw [hkop]; unfold kindOk; rw [if_neg (of_decide_eq_false hb2), if_neg (of_decide_eq_false hb4), if_pos (of_decide_eq_true hb6)]; simpa using hb7), Bool.and_false], rfl⟩
            ·
              refine G_skip ?_
              refine blk_normal ?_
              refine blk_normal ?_
              refine thn_normal ?_
              refine g_region ?_
              refine sv rfl (y_add) ?_
              refine sv rfl (y_move) ?_
              refine GOps_nil ?_
              refine hn0 _ (z + 1) ⟨by omega, upto_step (p := fun i (k : Tr) => kindOk ((s[i]!).toNat : Nat) k.op) hz2 hk (by rw [hkop]; unfold kindOk; rw [if_neg (of_decide_eq_false hb2), if_neg (of_decide_eq_false hb4), if_pos (of_decide_eq_true hb6)]; simpa using hb7)⟩ (by omega) le_of
          ·
            refine G_skip ?_
            refine blk_normal ?_
            refine blk_normal ?_
            refine thn_normal ?_
            refine g_region ?_
            refine sv rfl (y_add) ?_
            refine sv rfl (y_move) ?_
            refine GOps_nil ?_
            refine hn0 _ (z + 1) ⟨by omega, upto_step (p := fun i (k : Tr) => kindOk ((s[i]!).toNat : Nat) k.op) hz2 hk (by rw [hkop]; unfold kindOk; rw [if_neg (of_decide_eq_false hb2), if_neg (of_decide_eq_false hb4), if_neg (of_decide_eq_false hb6)])⟩ (by omega) le_of
    ·
      have hge : z = ks.length := by
        have : ¬ (z : Int) < (ks.map Tr.d).length := by simpa using hb1
        rw [List.length_map] at this
        omega
      refine G_exit ?_
      refine thn_exit ?_
      refine he0 _ _ ?_
      refine blk_exit ?_
      refine thn_normal ?_
      refine G_seq ?_
      refine g_region ?_
      refine sv rfl (y_assign) ?_
      refine GOps_nil ?_
      refine thn_normal ?_
      refine G_ret ?_
      refine fin1 (by simp) ?_
      exact ⟨by rw [kidsB, zipIdx_all (p := fun i (k : Tr) => kindOk ((s[i]!).toNat : Nat) k.op) (fun i hi x hx => hz2 i (by have : i < ks.length := hi; omega) x hx)]; simp [Tr.kids, hle], rfl⟩
end Go.Proofs.YtklkbfpjimeaoaaGreat
