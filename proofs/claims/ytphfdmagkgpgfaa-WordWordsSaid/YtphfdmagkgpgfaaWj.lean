/- Contracts of functions. Conditions: none. -/
import Derived.Test.YtphfdmagkgpgfaaWi
namespace Go.Proofs.Ytphfdmagkgpgfaa
open Go Go.Proofs.Ytphfdmagkgpgfaa.E

def fieldsB : List ByteArray := [⟨#[]⟩, ⟨#[65, 78]⟩, ⟨#[65, 66]⟩, ⟨#[65, 78]⟩, ⟨#[65, 78]⟩, ⟨#[65, 66, 67, 84]⟩, ⟨#[78]⟩, ⟨#[65, 78]⟩, ⟨#[65]⟩, ⟨#[65, 78]⟩, ⟨#[65, 78]⟩, ⟨#[65]⟩]
def fieldsD : List D := fieldsB.map .str
def fieldB (op : Int) : ByteArray := (fieldsB[op.toNat]?).getD ⟨#[]⟩
def hasB (s : ByteArray) (c : Int) : Bool := (List.range s.size).any fun i => ((s[i]!).toNat : Int) == c
theorem known_cases {op : Int} (h : knownI op = true) : op = 1 ∨ op = 2 ∨ op = 3 ∨ op = 4 ∨ op = 5 ∨ op = 6 ∨ op = 7 ∨ op = 8 ∨ op = 9 ∨ op = 10 ∨ op = 11 := by
  simp only [knownI, Bool.and_eq_true, decide_eq_true_eq] at h
  omega
theorem field_at {op : Int} (h : knownI op = true) : fieldsD[op.toNat]? = some (.str (fieldB op)) ∧ (fieldB op).size ≤ 10 ∧ hasB (fieldB op) 78 = wideI op := by
  obtain rfl | rfl | rfl | rfl | rfl | rfl | rfl | rfl | rfl | rfl | rfl := known_cases h
  all_goals exact ⟨rfl, by decide +kernel, by decide +kernel⟩
theorem hasB_step {s : ByteArray} {c : Int} {z : Nat} (h : ∀ i, i < z → ¬ ((s[i]!).toNat : Int) = c) (hb : ¬ ((s[z]!).toNat : Int) = c) : ∀ i, i < z + 1 → ¬ ((s[i]!).toNat : Int) = c := fun i hi => by
  by_cases e : i = z
  · subst e; exact hb
  · exact h i (by omega)
theorem hasB_true {s : ByteArray} {c : Int} {z : Nat} (hz : z < s.size) (hb : ((s[z]!).toNat : Int) = c) : hasB s c = true :=
  List.any_eq_true.2 ⟨z, List.mem_range.2 hz, by simpa using hb⟩
theorem hasB_false {s : ByteArray} {c : Int} (h : ∀ i, i < s.size → ¬ ((s[i]!).toNat : Int) = c) : hasB s c = false :=
  List.any_eq_false.2 fun i hi => by simpa using h i (List.mem_range.1 hi)

/- THE WORDS, BY ARITHMETIC -/
theorem u64w_id {n : Int} (h0 : 0 ≤ n) (h1 : n < 18446744073709551616) : u64w n = n := IntWalk.u64_in n ⟨h0, by omega⟩
theorem uor_add {x y : Int} {n : Nat} (hx0 : 0 ≤ x) (hx : x < 2 ^ n) (hy : 0 ≤ y) (h : y * 2 ^ n + x < 18446744073709551616) : uor x (ushl n y) = y * 2 ^ n + x := by
  obtain ⟨x, rfl⟩ := Int.eq_ofNat_of_zero_le hx0
  obtain ⟨y, rfl⟩ := Int.eq_ofNat_of_zero_le hy
  have hx' : x < 2 ^ n := by exact_mod_cast hx
  have e0 : (y : Int) * 2 ^ n = ((y * 2 ^ n : Nat) : Int) := by push_cast; rfl
  have e3 : x ||| y * 2 ^ n = y * 2 ^ n + x := by
    rw [Nat.or_comm, ← Nat.shiftLeft_eq, Nat.shiftLeft_add_eq_or_of_lt hx']
  unfold uor ushl
  rw [e0] at h ⊢
  generalize y * 2 ^ n = p at h e3 ⊢
  have hs : IntKind.u64.wrap (p : Int) = (p : Int) := IntWalk.u64_in _ ⟨by omega, by omega⟩
  rw [hs]
  have e1 : BitVec.ofInt 64 (x : Int) = BitVec.ofNat 64 x := by rw [BitVec.ofInt_natCast]
  have e2 : BitVec.ofInt 64 (p : Int) = BitVec.ofNat 64 p := by rw [BitVec.ofInt_natCast]
  rw [e1, e2, BitVec.toNat_or, BitVec.toNat_ofNat, BitVec.toNat_ofNat, Nat.mod_eq_of_lt (by omega), Nat.mod_eq_of_lt (by omega), e3]
  have e4 : ((p + x : Nat) : Int) = (p : Int) + x := by omega
  rw [e4]
  exact IntWalk.u64_in _ ⟨by omega, by omega⟩
def refW (i : WIns) (t : Int) : Int := u64w (u64w (u64w (u64w (u64w i.op + u64w (u64w i.a * 256)) + u64w (u64w i.b * 65536)) + u64w (u64w i.c * 16777216)) + u64w (u64w t * 4294967296))
theorem badA_in {i : WIns} (h : badA i = false) : 1 ≤ i.op ∧ i.op ≤ 11 ∧ 0 ≤ i.a ∧ i.a ≤ 255 ∧ 0 ≤ i.b ∧ i.b ≤ 255 ∧ 0 ≤ i.c ∧ i.c ≤ 255 := by
  simp only [badA, knownI, smallI, Bool.or_eq_false_iff, Bool.not_eq_false', Bool.and_eq_true, decide_eq_true_eq] at h
  omega
def sumW (i : WIns) (t : Int) : Int := i.op + i.a * 256 + i.b * 65536 + i.c * 16777216 + t * 4294967296
theorem refW_sum {i : WIns} {t : Int} (h : badA i = false) (ht0 : 0 ≤ t) (ht : t ≤ 17) : refW i t = sumW i t := by
  obtain ⟨o1, o2, a1, a2, b1, b2, c1, c2⟩ := badA_in h
  unfold refW sumW
  rw [u64w_id (n := i.op) (by omega) (by omega), u64w_id (n := i.a) (by omega) (by omega), u64w_id (n := i.b) (by omega) (by omega), u64w_id (n := i.c) (by omega) (by omega), u64w_id (n := t) (by omega) (by omega)]
  rw [u64w_id (n := i.a * 256) (by omega) (by omega), u64w_id (n := i.b * 65536) (by omega) (by omega), u64w_id (n := i.c * 16777216) (by omega) (by omega), u64w_id (n := t * 4294967296) (by omega) (by omega)]
  rw [u64w_id (n := i.op + i.a * 256) (by omega) (by omega), u64w_id (n := i.op + i.a * 256 + i.b * 65536) (by omega) (by omega), u64w_id (n := i.op + i.a * 256 + i.b * 65536 + i.c * 16777216) (by omega) (by omega), u64w_id (by omega) (by omega)]
theorem wordT_sum {i : WIns} {t : Int} (h : badA i = false) (ht0 : 0 ≤ t) (ht : t ≤ 17) : wordT i t = sumW i t := by
  obtain ⟨o1, o2, a1, a2, b1, b2, c1, c2⟩ := badA_in h
  unfold wordT sumW
  rw [u64w_id (n := i.op) (by omega) (by omega), u64w_id (n := i.a) (by omega) (by omega), u64w_id (n := i.b) (by omega) (by omega), u64w_id (n := i.c) (by omega) (by omega), u64w_id (n := t) (by omega) (by omega)]
  rw [uor_add (x := i.op) (y := i.a) (n := 8) (by omega) (by omega) (by omega) (by omega)]
  rw [uor_add (y := i.b) (n := 16) (by omega) (by omega) (by omega) (by omega)]
  rw [uor_add (y := i.c) (n := 24) (by omega) (by omega) (by omega) (by omega)]
  rw [uor_add (y := t) (n := 32) (by omega) (by omega) (by omega) (by omega)]
  omega
theorem textsB_nodup : textsB.Nodup := by decide +kernel
/-- What the search for a text has found among the first n. -/
def TI (x : WIns) (n : Nat) (t : Int) : Prop := (x.op ≠ 5 → t = 0) ∧ (x.op = 5 → (t = 0 ∧ ∀ k, k < n → textsB[k]? ≠ some x.text) ∨ ∃ k, k < n ∧ textsB[k]? = some x.text ∧ t = ((k + 1 : Nat) : Int))
theorem TI_zero (x : WIns) : TI x 0 0 := ⟨fun _ => rfl, fun _ => .inl ⟨rfl, fun k hk => by omega⟩⟩
theorem TI_hit {x : WIns} {n : Nat} {t : Int} {s : ByteArray} (hs : textsB[n]? = some s) (h5 : x.op = 5) (he : s = x.text) : TI x (n + 1) ((n + 1 : Nat) : Int) :=
  ⟨fun h => absurd h5 h, fun _ => .inr ⟨n, by omega, by rw [hs, he], rfl⟩⟩
theorem TI_miss {x : WIns} {n : Nat} {t : Int} {s : ByteArray} (h : TI x n t) (hs : textsB[n]? = some s) (hn : ¬ (x.op = 5 ∧ s = x.text)) : TI x (n + 1) t :=
  ⟨h.1, fun h5 => by
    rcases h.2 h5 with ⟨h1, h2⟩ | ⟨k, hk, h1, h2⟩
    · refine .inl ⟨h1, fun k hk => ?_⟩
      by_cases e : k = n
      · subst e; rw [hs]; intro he; injection he with he; exact hn ⟨h5, he⟩
      · exact h2 k (by omega)
    · exact .inr ⟨k, by omega, h1, h2⟩⟩
theorem TI_end {x : WIns} {t : Int} (h : TI x 17 t) : textN x = t ∧ 0 ≤ t ∧ t ≤ 17 := by
  unfold textN
  by_cases h5 : x.op = 5
  · rw [if_pos h5]
    have hD : ∀ i (h : i < textsD.length), ∃ s, textsB[i]? = some s ∧ textsD[i] = D.str s := fun i h => by
      have h' : i < textsB.length := by rw [textsD, List.length_map] at h; exact h
      exact ⟨textsB[i], List.getElem?_eq_getElem h', by simp only [textsD, List.getElem_map]⟩
    rcases h.2 h5 with ⟨h1, h2⟩ | ⟨k, hk, h1, h2⟩
    · have hi : idxI (isStr x.text) textsD = -1 := by
        unfold idxI
        split
        · rename_i i hi
          obtain ⟨hlt, hp, _⟩ := List.findIdx?_eq_some_iff_getElem.1 hi
          exfalso
          obtain ⟨s, hs, he⟩ := hD i hlt
          rw [he] at hp
          have hp' : x.text = s := by simpa [isStr] using hp
          exact h2 i hlt (by rw [hs, hp'])
        · rfl
      rw [hi, h1]
      decide
    · have hi : idxI (isStr x.text) textsD = (k : Int) := by
        unfold idxI
        have hf : textsD.findIdx? (isStr x.text) = some k := by
          rw [List.findIdx?_eq_some_iff_getElem]
          have hkd : k < textsD.length := hk
          obtain ⟨s, hs, he⟩ := hD k hkd
          rw [h1] at hs
          injection hs with hs
          refine ⟨hkd, by rw [he, ← hs]; simp [isStr], fun j hj => ?_⟩
          obtain ⟨s', hs', he'⟩ := hD j (Nat.lt_trans hj hkd)
          rw [he']
          intro hc
          have hc' : x.text = s' := by simpa [isStr] using hc
          have hjl := List.getElem?_eq_some_iff.1 hs'
          have hkl := List.getElem?_eq_some_iff.1 h1
          exact (List.pairwise_iff_getElem.1 textsB_nodup) j k hjl.1 hkl.1 hj (by rw [hjl.2, hkl.2, hc'])
        rw [hf]
      rw [hi, h2]
      refine ⟨?_, by omega, by omega⟩
      rw [wrap_i64 (by omega) (by omega)]; omega
  · rw [if_neg h5, h.1 h5]; exact ⟨rfl, by omega, by omega⟩
theorem nk (x : Int) : (decide (x < 1) || decide (x > 11)) = !knownI x := by
  unfold knownI
  by_cases h1 : x < 1 <;> by_cases h2 : x > 11 <;> simp [h1, h2] <;> omega

theorem c54  : Pf Try.prog 54 [] (.osl 1 textsD) := by
  refine pf_body (rvs := [.tmp 0]) [] Try.func54 Try.ntmps54 Try.results54 (fun S0 O0 w0 m0 hm0 => ?_)
  refine G_seq ?_
  refine g_region ?_
  refine sv rfl (y_assign) ?_
  refine GOps_nil ?_
  refine thn_normal ?_
  refine G_seq ?_
  refine g_region ?_
  refine sv rfl (y_buildSlice (xs := [.const (.string ⟨#[43]⟩), .const (.string ⟨#[45]⟩), .const (.string ⟨#[42]⟩), .const (.string ⟨#[47]⟩), .const (.string ⟨#[37]⟩), .const (.string ⟨#[61, 61]⟩), .const (.string ⟨#[33, 61]⟩), .const (.string ⟨#[60]⟩), .const (.string ⟨#[60, 61]⟩), .const (.string ⟨#[62]⟩), .const (.string ⟨#[62, 61]⟩), .const (.string ⟨#[109, 105, 110]⟩), .const (.string ⟨#[109, 97, 120]⟩), .const (.string ⟨#[38, 38]⟩), .const (.string ⟨#[124, 124]⟩), .const (.string ⟨#[110, 101, 103]⟩), .const (.string ⟨#[110, 111, 116]⟩)]) Try.underlying79 inf9) ?_
  first | refine sv rfl (y_assign_take) ?_ | refine sv rfl (y_assign) ?_
  refine GOps_nil ?_
  refine thn_normal ?_
  refine G_ret ?_
  refine fino (by simp) ?_
  exact ⟨rfl, rfl⟩

theorem c53 (x : Int) : Pf Try.prog 53 [.int .i64 x] (.d (.bool (smallI x))) := by
  refine pf_body (rvs := [.tmp 2]) [(0, .d (.int .i64 x))] Try.func53 Try.ntmps53 Try.results53 (fun S0 O0 w0 m0 hm0 => ?_)
  refine G_seq ?_
  refine g_region ?_
  refine sv rfl (y_assign) ?_
  refine GOps_nil ?_
  refine thn_normal ?_
  refine G_seq ?_
  refine g_region ?_
  refine sv rfl (y_move) ?_
  refine sv rfl (y_geq) ?_
  refine sv rfl (y_move) ?_
  refine sg rfl (fun hg => q_move) ?_
  refine sg rfl (fun hg => strip 6 (by simp only [GS.set, GS.get, List.lookup_cons, Nat.reduceBEq] <;> rfl) hg (q_leq)) ?_
  refine sv rfl (y_and) ?_
  refine sv rfl (y_assign) ?_
  refine GOps_nil ?_
  refine thn_normal ?_
  refine G_ret ?_
  refine fin1 (by simp) ?_
  exact ⟨rfl, rfl⟩

theorem c56 (op : Int) (h : knownI op = true) : Pf Try.prog 56 [.int .i64 op] (.d (.str (fieldB op))) := by
  refine pf_body (rvs := [.tmp 2]) [(0, .d (.int .i64 op))] Try.func56 Try.ntmps56 Try.results56 (fun S0 O0 w0 m0 hm0 => ?_)
  refine G_seq ?_
  refine g_region ?_
  refine sv rfl (y_assign) ?_
  refine GOps_nil ?_
  refine thn_normal ?_
  refine G_seq ?_
  refine g_region ?_
  have hx := (field_at h).1
  have h0 : 0 ≤ op := by have := known_cases h; omega
  refine sv rfl (y_buildSlice (xs := [.const (.string ⟨#[]⟩), .const (.string ⟨#[65, 78]⟩), .const (.string ⟨#[65, 66]⟩), .const (.string ⟨#[65, 78]⟩), .const (.string ⟨#[65, 78]⟩), .const (.string ⟨#[65, 66, 67, 84]⟩), .const (.string ⟨#[78]⟩), .const (.string ⟨#[65, 78]⟩), .const (.string ⟨#[65]⟩), .const (.string ⟨#[65, 78]⟩), .const (.string ⟨#[65, 78]⟩), .const (.string ⟨#[65]⟩)]) Try.underlying79 inf9) ?_
  refine sv rfl (y_move) ?_
  refine sv rfl (y_indexAddr Try.underlying79 sz9) ?_
  first | refine sv rfl (y_load_leaf Try.underlying9) ?_ | refine sv rfl (y_loadp_leaf Try.underlying9) ?_
  refine sv rfl (y_assign) ?_
  refine GOps_nil ?_
  refine thn_normal ?_
  refine G_ret ?_
  refine fin1 (by simp) ?_
  exact ⟨rfl, rfl⟩

theorem c55 (s : ByteArray) (c : Int) (hlim : s.size ≤ 1000000) : Pf Try.prog 55 [.str s, .int .u8 c] (.d (.bool (hasB s c))) := by
  refine pf_body (rvs := [.tmp 4]) [(0, .d (.str s)), (1, .d (.int .u8 c))] Try.func55 Try.ntmps55 Try.results55 (fun S0 O0 w0 m0 hm0 => ?_)
  refine G_seq ?_
  refine g_region ?_
  refine sv rfl (y_assign) ?_
  refine GOps_nil ?_
  refine thn_normal ?_
  refine G_seq ?_
  refine G_seq ?_
  refine g_region ?_
  refine sv rfl (y_assign) ?_
  refine GOps_nil ?_
  refine thn_normal ?_
  refine G_block ?_
  refine g_loop (α := Nat) (fun z => ⟨[(5, .d (.int .i64 (z : Nat))), (0, .d (.str s)), (1, .d (.int .u8 c))], []⟩) (fun z => s.size - z) (fun z => z ≤ s.size ∧ ∀ i, i < z → ¬ ((s[i]!).toNat : Int) = c) 0 ⟨Nat.zero_le _, by simp⟩ (fun z hz Q' hn0 he0 hr0 => ?_) (le_of)
  obtain ⟨hz1, hz2⟩ := hz
  refine G_seq ?_
  refine G_seq ?_
  refine g_region ?_
  refine sv rfl (y_move) ?_
  refine sv rfl (y_move) ?_
  refine sv rfl (y_lenstr Try.underlying9) ?_
  refine sv rfl (y_lss) ?_
  refine GOps_nil ?_
  refine thn_normal ?_
  refine g_cond (fun hb0 => ?_) (fun hb0 => ?_)
  ·
    have hlt : z < s.size := by simpa using hb0
    refine G_skip ?_
    refine thn_normal ?_
    refine G_seq ?_
    refine G_block ?_
    refine G_seq ?_
    refine g_region ?_
    refine sv rfl (y_move) ?_
    refine sv rfl (y_move) ?_
    refine sv rfl (Yld_pure rfl (of_decide_eq_true rfl) (q_strindex Try.underlying9)) ?_
    refine sv rfl (y_move) ?_
    refine sv rfl (y_eql) ?_
    refine GOps_nil ?_
    refine thn_normal ?_
    refine g_cond (fun hb1 => ?_) (fun hb1 => ?_)
    ·
      refine G_seq ?_
      refine g_region ?_
      refine sv rfl (y_assign) ?_
      refine GOps_nil ?_
      refine thn_normal ?_
      refine G_ret ?_
      refine blk_ret ?_
      refine thn_ret ?_
      refine hr0 _ ?_
      refine blk_ret ?_
      refine thn_ret ?_
      refine fin1 (by simp) ?_
      exact ⟨by rw [hasB_true hlt (by simpa using hb1)], rfl⟩
    ·
      refine G_skip ?_
      refine blk_normal ?_
      refine thn_normal ?_
      refine g_region ?_
      refine sv rfl (y_move) ?_
      refine sv rfl (y_add) ?_
      refine sv rfl (y_assign) ?_
      refine GOps_nil ?_
      refine hn0 _ (z + 1) ⟨by omega, hasB_step hz2 (by simpa using hb1)⟩ (by omega) le_of
  ·
    have hge : z = s.size := by
      have : ¬ (z : Int) < (s.size : Nat) := by simpa using hb0
      omega
    refine G_exit ?_
    refine thn_exit ?_
    refine he0 _ _ ?_
    refine blk_exit ?_
    refine thn_normal ?_
    refine G_seq ?_
    refine g_region ?_
    refine sv rfl (y_assign) ?_
    refine GOps_nil ?_
    refine thn_normal ?_
    refine G_ret ?_
    refine fin1 (by simp) ?_
    exact ⟨by rw [hasB_false (hge ▸ hz2)], rfl⟩

set_option maxHeartbeats 4000000 in
theorem c29 (xs : List WIns) (hlim : xs.length ≤ 1000000000) : Pf Try.prog 29 [insD xs] (encR xs) := by
  refine pf_body (rvs := [.tmp 2, .tmp 3]) [(0, .d (.sl (xs.map WIns.d)))] Try.func29 Try.ntmps29 Try.results29 (fun S0 O0 w0 m0 hm0 => ?_)
  refine G_seq ?_
  refine g_region ?_
  refine sv rfl (y_assign) ?_
  refine sv rfl (y_assign) ?_
  refine GOps_nil ?_
  refine thn_normal ?_
  refine G_seq ?_
  refine G_seq ?_
  refine g_region ?_
  refine sv rfl (y_move) ?_
  refine sv rfl (y_len Try.underlying44) ?_
  refine sv rfl (y_gtr) ?_
  refine GOps_nil ?_
  refine thn_normal ?_
  refine g_cond (fun hb0 => ?_) (fun hb0 => ?_)
  ·
    have hlong : (xs.length : Int) > 160000 := by simpa using hb0
    refine G_seq ?_
    refine g_region ?_
    refine sv rfl (y_assign) ?_
    refine sv rfl (y_assign) ?_
    refine GOps_nil ?_
    refine thn_normal ?_
    refine G_ret ?_
    refine thn_ret ?_
    refine find2 (by simp) ?_
    exact ⟨by simp only [encR, if_pos hlong], rfl⟩
  ·
    have hshort : ¬ ((xs.length : Int) > 160000) := by simpa using hb0
    have hsh : xs.length ≤ 160000 := by omega
    refine G_skip ?_
    refine thn_normal ?_
    refine G_seq ?_
    refine g_region ?_
    refine sv rfl (y_buildSlice (xs := []) Try.underlying45 inf61) ?_
    first | refine sv rfl (y_assign_take) ?_ | refine sv rfl (y_assign) ?_
    refine GOps_nil ?_
    refine thn_normal ?_
    refine G_seq ?_
    refine G_seq ?_
    refine g_region ?_
    refine sv rfl (y_assign) ?_
    refine GOps_nil ?_
    refine thn_normal ?_
    refine G_block ?_
    refine g_loop (α := Nat × List D) (fun z => ⟨[(5, .d (.int .i64 (z.1 : Nat))), (4, .osl 1 z.2), (0, .d (.sl (xs.map WIns.d)))], []⟩) (fun z => xs.length - z.1) (fun z => z.1 ≤ xs.length ∧ ∃ acc : List Int, z.2 = u64s acc ∧ acc.length ≤ 2 * z.1 ∧ encS xs = (encS (xs.drop z.1)).map (acc ++ ·)) (0, []) ⟨Nat.zero_le _, [], rfl, by simp, by simp⟩ (fun z hz Q' hn0 he0 hr0 => ?_) (le_of)
    obtain ⟨z, l⟩ := z
    obtain ⟨hz1, acc, hl, hal, hz2⟩ := hz
    replace hz1 : z ≤ xs.length := hz1
    replace hl : l = u64s acc := hl
    replace hal : acc.length ≤ 2 * z := hal
    replace hz2 : encS xs = (encS (xs.drop z)).map (acc ++ ·) := hz2
    have hll : l.length = acc.length := by rw [hl, u64s, List.length_map]
    refine G_seq ?_
    refine G_seq ?_
    refine g_region ?_
    refine sv rfl (y_move) ?_
    refine sv rfl (y_move) ?_
    refine sv rfl (y_len Try.underlying44) ?_
    refine sv rfl (y_lss) ?_
    refine GOps_nil ?_
    refine thn_normal ?_
    refine g_cond (fun hb1 => ?_) (fun hb1 => ?_)
    ·
      have hlt : z < xs.length := by simpa using hb1
      obtain ⟨x, hxe⟩ : ∃ x, xs[z] = x := ⟨_, rfl⟩
      have hxs : xs[z]? = some x := by rw [List.getElem?_eq_getElem hlt, hxe]
      have hx : (xs.map WIns.d)[z]? = some (.agg [.int .i64 x.op, .int .i64 x.a, .int .i64 x.b, .int .i64 x.c, .int .i64 x.n, .str x.text]) := by rw [List.getElem?_map, hxs]; rfl
      have hstep := encS_drop hz2 hxs
      refine G_skip ?_
      refine thn_normal ?_
      refine G_seq ?_
      refine G_block ?_
      refine G_seq ?_
      refine g_region ?_
      refine sv rfl (y_move) ?_
      refine sv rfl (y_move) ?_
      refine sv rfl (y_indexAddr Try.underlying44 sz48) ?_
      refine sv rfl (y_loadp_agg (ds := [.int .i64 x.op, .int .i64 x.a, .int .i64 x.b, .int .i64 x.c, .int .i64 x.n, .str x.text]) sz48 Try.underlying48 rfl) ?_
      refine sv rfl (y_alloc zr48) ?_
      first | refine sa rfl (d_store sz48) ?_ | refine sa rfl (d_store_take sz48) ?_
      refine GOps_nil ?_
      refine thn_normal ?_
      refine G_seq ?_
      refine G_seq ?_
      refine g_region ?_
      first | refine sv rfl (y_fieldAddr Try.underlying48 rfl sz3) ?_ | refine sv rfl (y_fieldp_leaf Try.underlying48 rfl sz3) ?_
      first | refine sv rfl (y_load_leaf Try.underlying3) ?_ | refine sv rfl (y_loadp_leaf Try.underlying3) ?_
      refine sv rfl (y_lss) ?_
      refine sv rfl (y_move) ?_
      first | refine sg rfl (fun hg => q_fieldAddr Try.underlying48 rfl sz3) ?_ | refine sg rfl (fun hg => q_fieldp_leaf Try.underlying48 rfl sz3) ?_
      first | refine sg rfl (fun hg => strip 29 (by simp only [GS.set, GS.get, List.lookup_cons, Nat.reduceBEq] <;> rfl) hg (q_load_leaf Try.underlying3)) ?_ | refine sg rfl (fun hg => strip 29 (by simp only [GS.set, GS.get, List.lookup_cons, Nat.reduceBEq] <;> rfl) hg (q_loadp_leaf Try.underlying3)) ?_
      refine sg rfl (fun hg => strip 30 (by simp only [GS.set, GS.get, List.lookup_cons, Nat.reduceBEq] <;> rfl) hg (q_gtr)) ?_
      refine sv rfl (y_or) ?_
      refine sv rfl (y_move) ?_
      first | refine sg rfl (fun hg => q_fieldAddr Try.underlying48 rfl sz3) ?_ | refine sg rfl (fun hg => q_fieldp_leaf Try.underlying48 rfl sz3) ?_
      first | refine sg rfl (fun hg => strip 34 (by simp only [GS.set, GS.get, List.lookup_cons, Nat.reduceBEq] <;> rfl) hg (q_load_leaf Try.underlying3)) ?_ | refine sg rfl (fun hg => strip 34 (by simp only [GS.set, GS.get, List.lookup_cons, Nat.reduceBEq] <;> rfl) hg (q_loadp_leaf Try.underlying3)) ?_
      refine g_callg (xs := [.tmp 35]) rfl (fun hg => c53 x.a) ?_
      refine sg rfl (fun hg => strip 36 (by simp only [GS.set, GS.get, List.lookup_cons, Nat.reduceBEq] <;> rfl) hg (q_not)) ?_
      refine sv rfl (y_or) ?_
      refine sv rfl (y_move) ?_
      first | refine sg rfl (fun hg => q_fieldAddr Try.underlying48 rfl sz3) ?_ | refine sg rfl (fun hg => q_fieldp_leaf Try.underlying48 rfl sz3) ?_
      first | refine sg rfl (fun hg => strip 40 (by simp only [GS.set, GS.get, List.lookup_cons, Nat.reduceBEq] <;> rfl) hg (q_load_leaf Try.underlying3)) ?_ | refine sg rfl (fun hg => strip 40 (by simp only [GS.set, GS.get, List.lookup_cons, Nat.reduceBEq] <;> rfl) hg (q_loadp_leaf Try.underlying3)) ?_
      refine g_callg (xs := [.tmp 41]) rfl (fun hg => c53 x.b) ?_
      refine sg rfl (fun hg => strip 42 (by simp only [GS.set, GS.get, List.lookup_cons, Nat.reduceBEq] <;> rfl) hg (q_not)) ?_
      refine sv rfl (y_or) ?_
      refine sv rfl (y_move) ?_
      first | refine sg rfl (fun hg => q_fieldAddr Try.underlying48 rfl sz3) ?_ | refine sg rfl (fun hg => q_fieldp_leaf Try.underlying48 rfl sz3) ?_
      first | refine sg rfl (fun hg => strip 46 (by simp only [GS.set, GS.get, List.lookup_cons, Nat.reduceBEq] <;> rfl) hg (q_load_leaf Try.underlying3)) ?_ | refine sg rfl (fun hg => strip 46 (by simp only [GS.set, GS.get, List.lookup_cons, Nat.reduceBEq] <;> rfl) hg (q_loadp_leaf Try.underlying3)) ?_
      refine g_callg (xs := [.tmp 47]) rfl (fun hg => c53 x.c) ?_
      refine sg rfl (fun hg => strip 48 (by simp only [GS.set, GS.get, List.lookup_cons, Nat.reduceBEq] <;> rfl) hg (q_not)) ?_
      refine sv rfl (y_or) ?_
      refine GOps_nil ?_
      refine thn_normal ?_
      refine g_cond (fun hb2 => ?_) (fun hb2 => ?_)
      ·
        have hA : badA x = true := by rw [nk] at hb2; exact hb2
        have hnone : encS xs = none := by rw [hstep]; simp only [encI, hA]; rfl
        refine G_seq ?_
        refine g_keep [0, 2, 3, 4, 5, 6, 7, 8, 9, 10] ?_
        refine g_region ?_
        refine sv rfl (y_assign) ?_
        refine sv rfl (y_assign) ?_
        refine GOps_nil ?_
        refine thn_normal ?_
        refine G_ret ?_
        refine thn_ret ?_
        refine blk_ret ?_
        refine thn_ret ?_
        refine hr0 _ ?_
        refine blk_ret ?_
        refine thn_ret ?_
        refine find2 (by simp) ?_
        exact ⟨by simp only [encR, if_neg hshort]; rw [hnone], rfl⟩
      ·
        have hA : badA x = false := by rw [nk] at hb2; exact hb2
        have hkn : knownI x.op = true := by
          cases hk : knownI x.op with
          | true => rfl
          | false => simp [badA, hk] at hA
        have hfa := field_at hkn
        have hf2 := hfa.2.1
        refine G_skip ?_
        refine thn_normal ?_
        refine G_seq ?_
        refine g_keep [0, 2, 3, 4, 5, 6, 7, 8, 9, 10] ?_
        refine g_region ?_
        refine sv rfl (y_assign) ?_
        refine GOps_nil ?_
        refine thn_normal ?_
        refine G_seq ?_
        refine g_region ?_
        refine g_call (xs := []) rfl (c54) ?_
        first | refine sv rfl (y_assign_take) ?_ | refine sv rfl (y_assign) ?_
        refine GOps_nil ?_
        refine thn_normal ?_
        refine G_seq ?_
        refine G_seq ?_
        refine g_region ?_
        refine sv rfl (y_assign) ?_
        refine GOps_nil ?_
        refine thn_normal ?_
        refine G_block ?_
        refine g_loop (α := Nat × Int) (fun y => ⟨[(9, .d (.int .i64 (y.1 : Nat))), (8, .d (.sl textsD)), (7, .d (.int .i64 y.2)), (6, .ref 0 0), (5, .d (.int .i64 (z : Nat))), (4, .osl 1 l), (0, .d (.sl (xs.map WIns.d)))], [[.d (.int .i64 x.op), .d (.int .i64 x.a), .d (.int .i64 x.b), .d (.int .i64 x.c), .d (.int .i64 x.n), .d (.str x.text)]]⟩) (fun y => 17 - y.1) (fun y => y.1 ≤ 17 ∧ TI x y.1 y.2) (0, 0) ⟨Nat.zero_le _, TI_zero x⟩ (fun y hy Q' hn1 he1 hr1 => ?_) (le_of)
        obtain ⟨n, t⟩ := y
        obtain ⟨hnA, hnB⟩ := hy
        replace hnA : n ≤ 17 := hnA
        replace hnB : TI x n t := hnB
        refine G_seq ?_
        refine G_seq ?_
        refine g_region ?_
        refine sv rfl (y_move) ?_
        refine sv rfl (y_move) ?_
        refine sv rfl (y_len Try.underlying79) ?_
        refine sv rfl (y_lss) ?_
        refine GOps_nil ?_
        refine thn_normal ?_
        refine g_cond (fun hb3 => ?_) (fun hb3 => ?_)
        ·
          have hnl : n < 17 := by
            have h17 : textsD.length = 17 := rfl
            have : (n : Int) < (textsD.length : Nat) := by simpa using hb3
            omega
          obtain ⟨s, hts⟩ : ∃ s, textsB[n]? = some s := ⟨_, List.getElem?_eq_getElem (by show n < 17; omega)⟩
          have hx2 : textsD[n]? = some (.str s) := by rw [textsD, List.getElem?_map, hts]; rfl
          refine G_skip ?_
          refine thn_normal ?_
          refine G_seq ?_
          refine G_block ?_
          refine G_seq ?_
          refine G_draw 12 [0, 1, 2, 3, 4, 5, 6, 7, 8, 9, 10, 11] rfl rfl (by kernel_rfl) ?_
          first | refine sq rfl (q_fieldAddr Try.underlying48 rfl sz3) ?_ | refine sq rfl (q_fieldp_leaf Try.underlying48 rfl sz3) ?_
          first | refine sq rfl (q_load_leaf Try.underlying3) ?_ | refine sq rfl (q_loadp_leaf Try.underlying3) ?_
          refine sq rfl (q_eql) ?_
          refine sq rfl (q_move) ?_
          refine sqg rfl (fun hg => q_move) ?_
          refine sqg rfl (fun hg => q_move) ?_
          refine sqg rfl (fun hg => strip 63 (by simp only [GS.set, GS.get, List.lookup_cons, Nat.reduceBEq] <;> rfl) hg (strip 62 (by simp only [GS.set, GS.get, List.lookup_cons, Nat.reduceBEq] <;> rfl) hg (q_indexAddr Try.underlying79 sz9))) ?_
          first | refine sqg rfl (fun hg => strip 64 (by simp only [GS.set, GS.get, List.lookup_cons, Nat.reduceBEq] <;> rfl) hg (q_load_leaf Try.underlying9)) ?_ | refine sqg rfl (fun hg => strip 64 (by simp only [GS.set, GS.get, List.lookup_cons, Nat.reduceBEq] <;> rfl) hg (q_loadp_leaf Try.underlying9)) ?_
          first | refine sqg rfl (fun hg => q_fieldAddr Try.underlying48 rfl sz9) ?_ | refine sqg rfl (fun hg => q_fieldp_leaf Try.underlying48 rfl sz9) ?_
          first | refine sqg rfl (fun hg => strip 66 (by simp only [GS.set, GS.get, List.lookup_cons, Nat.reduceBEq] <;> rfl) hg (q_load_leaf Try.underlying9)) ?_ | refine sqg rfl (fun hg => strip 66 (by simp only [GS.set, GS.get, List.lookup_cons, Nat.reduceBEq] <;> rfl) hg (q_loadp_leaf Try.underlying9)) ?_
          refine sqg rfl (fun hg => strip 67 (by simp only [GS.set, GS.get, List.lookup_cons, Nat.reduceBEq] <;> rfl) hg (strip 65 (by simp only [GS.set, GS.get, List.lookup_cons, Nat.reduceBEq] <;> rfl) hg (q_streq))) ?_
          refine sq rfl (q_and) ?_
          refine GQ_nil (by kernel_rfl) ?_
          refine thn_normal ?_
          refine g_cond (fun hb4 => ?_) (fun hb4 => ?_)
          ·
            have hhit : x.op = 5 ∧ s = x.text := by simpa using hb4
            refine g_keep [0, 2, 3, 4, 5, 6, 7, 8, 9, 10] ?_
            refine g_region ?_
            refine sv rfl (y_move) ?_
            refine sv rfl (y_add) ?_
            refine sv rfl (y_assign) ?_
            refine GOps_nil ?_
            refine blk_normal ?_
            refine thn_normal ?_
            refine g_region ?_
            refine sv rfl (y_move) ?_
            refine sv rfl (y_add) ?_
            refine sv rfl (y_assign) ?_
            refine GOps_nil ?_
            refine hn1 _ (n + 1, ((n + 1 : Nat) : Int)) ⟨by show n + 1 ≤ 17; omega, TI_hit (t := t) hts (by simpa using hhit.1) hhit.2⟩ (by show 17 - (n + 1) < 17 - n; omega) le_of
          ·
            have hmiss : ¬ (x.op = 5 ∧ s = x.text) := by
              intro h
              simp [h.1, h.2] at hb4
            refine G_skip ?_
            refine blk_normal ?_
            refine thn_normal ?_
            refine g_keep [0, 2, 3, 4, 5, 6, 7, 8, 9, 10] ?_
            refine g_region ?_
            refine sv rfl (y_move) ?_
            refine sv rfl (y_add) ?_
            refine sv rfl (y_assign) ?_
            refine GOps_nil ?_
            refine hn1 _ (n + 1, t) ⟨by show n + 1 ≤ 17; omega, TI_miss hnB hts hmiss⟩ (by show 17 - (n + 1) < 17 - n; omega) le_of
        ·
          have hn17 : n = 17 := by
            have h17 : textsD.length = 17 := rfl
            have : ¬ (n : Int) < (textsD.length : Nat) := by simpa using hb3
            omega
          subst hn17
          obtain ⟨htx, ht0, ht17⟩ := TI_end hnB
          have hword : refW x t = wordI x := by rw [wordI, htx, refW_sum hA ht0 ht17, wordT_sum hA ht0 ht17]
          refine G_exit ?_
          refine thn_exit ?_
          refine he1 _ _ ?_
          refine blk_exit ?_
          refine thn_normal ?_
          refine G_seq ?_
          refine g_region ?_
          first | refine sv rfl (y_fieldAddr Try.underlying48 rfl sz3) ?_ | refine sv rfl (y_fieldp_leaf Try.underlying48 rfl sz3) ?_
          first | refine sv rfl (y_load_leaf Try.underlying3) ?_ | refine sv rfl (y_loadp_leaf Try.underlying3) ?_
          refine g_call (xs := [.tmp 73]) rfl (c56 x.op hkn) ?_
          refine g_call (xs := [.tmp 74, .const (.int .u8 (78))]) rfl (c55 (fieldB x.op) 78 (by omega)) ?_
          refine sv rfl (y_assign) ?_
          refine GOps_nil ?_
          refine thn_normal ?_
          refine G_seq ?_
          refine G_seq ?_
          refine g_region ?_
          first | refine sv rfl (y_fieldAddr Try.underlying48 rfl sz3) ?_ | refine sv rfl (y_fieldp_leaf Try.underlying48 rfl sz3) ?_
          first | refine sv rfl (y_load_leaf Try.underlying3) ?_ | refine sv rfl (y_loadp_leaf Try.underlying3) ?_
          refine sv rfl (y_eql) ?_
          refine sv rfl (y_move) ?_
          refine sg rfl (fun hg => q_move) ?_
          refine sg rfl (fun hg => strip 80 (by simp only [GS.set, GS.get, List.lookup_cons, Nat.reduceBEq] <;> rfl) hg (q_eql)) ?_
          refine sv rfl (y_and) ?_
          refine sv rfl (y_move) ?_
          first | refine sg rfl (fun hg => q_fieldAddr Try.underlying48 rfl sz3) ?_ | refine sg rfl (fun hg => q_fieldp_leaf Try.underlying48 rfl sz3) ?_
          first | refine sg rfl (fun hg => strip 84 (by simp only [GS.set, GS.get, List.lookup_cons, Nat.reduceBEq] <;> rfl) hg (q_load_leaf Try.underlying3)) ?_ | refine sg rfl (fun hg => strip 84 (by simp only [GS.set, GS.get, List.lookup_cons, Nat.reduceBEq] <;> rfl) hg (q_loadp_leaf Try.underlying3)) ?_
          refine sg rfl (fun hg => strip 85 (by simp only [GS.set, GS.get, List.lookup_cons, Nat.reduceBEq] <;> rfl) hg (q_neq)) ?_
          refine sg rfl (fun hg => strip 86 (by simp only [GS.set, GS.get, List.lookup_cons, Nat.reduceBEq] <;> rfl) hg (q_move)) ?_
          first | refine sg rfl (fun hg => q_fieldAddr Try.underlying48 rfl sz9) ?_ | refine sg rfl (fun hg => q_fieldp_leaf Try.underlying48 rfl sz9) ?_
          first | refine sg rfl (fun hg => strip 88 (by simp only [GS.set, GS.get, List.lookup_cons, Nat.reduceBEq] <;> rfl) hg (q_load_leaf Try.underlying9)) ?_ | refine sg rfl (fun hg => strip 88 (by simp only [GS.set, GS.get, List.lookup_cons, Nat.reduceBEq] <;> rfl) hg (q_loadp_leaf Try.underlying9)) ?_
          refine sg rfl (fun hg => strip 89 (by simp only [GS.set, GS.get, List.lookup_cons, Nat.reduceBEq] <;> rfl) hg (q_strne)) ?_
          refine sg rfl (fun hg => strip 87 (by simp only [GS.set, GS.get, List.lookup_cons, Nat.reduceBEq] <;> rfl) hg (q_and)) ?_
          refine sv rfl (y_or) ?_
          refine sv rfl (y_move) ?_
          refine sg rfl (fun hg => q_move) ?_
          refine sg rfl (fun hg => strip 94 (by simp only [GS.set, GS.get, List.lookup_cons, Nat.reduceBEq] <;> rfl) hg (q_not)) ?_
          refine sg rfl (fun hg => strip 95 (by simp only [GS.set, GS.get, List.lookup_cons, Nat.reduceBEq] <;> rfl) hg (q_move)) ?_
          first | refine sg rfl (fun hg => q_fieldAddr Try.underlying48 rfl sz3) ?_ | refine sg rfl (fun hg => q_fieldp_leaf Try.underlying48 rfl sz3) ?_
          first | refine sg rfl (fun hg => strip 97 (by simp only [GS.set, GS.get, List.lookup_cons, Nat.reduceBEq] <;> rfl) hg (q_load_leaf Try.underlying3)) ?_ | refine sg rfl (fun hg => strip 97 (by simp only [GS.set, GS.get, List.lookup_cons, Nat.reduceBEq] <;> rfl) hg (q_loadp_leaf Try.underlying3)) ?_
          refine sg rfl (fun hg => strip 98 (by simp only [GS.set, GS.get, List.lookup_cons, Nat.reduceBEq] <;> rfl) hg (q_neq)) ?_
          refine sg rfl (fun hg => strip 96 (by simp only [GS.set, GS.get, List.lookup_cons, Nat.reduceBEq] <;> rfl) hg (q_and)) ?_
          refine sv rfl (y_or) ?_
          refine GOps_nil ?_
          refine thn_normal ?_
          refine g_cond (fun hb5 => ?_) (fun hb5 => ?_)
          ·
            have hB : badB x = true := by unfold badB; rw [htx, ← hfa.2.2]; exact hb5
            have hnone : encS xs = none := by rw [hstep]; simp only [encI, hA, hB]; rfl
            refine G_seq ?_
            refine g_keep [0, 2, 3, 4, 5, 6, 7, 8, 9, 10] ?_
            refine g_region ?_
            refine sv rfl (y_assign) ?_
            refine sv rfl (y_assign) ?_
            refine GOps_nil ?_
            refine thn_normal ?_
            refine G_ret ?_
            refine thn_ret ?_
            refine blk_ret ?_
            refine thn_ret ?_
            refine hr0 _ ?_
            refine blk_ret ?_
            refine thn_ret ?_
            refine find2 (by simp) ?_
            exact ⟨by simp only [encR, if_neg hshort]; rw [hnone], rfl⟩
          ·
            have hB : badB x = false := by unfold badB; rw [htx, ← hfa.2.2]; exact hb5
            refine G_skip ?_
            refine thn_normal ?_
            refine G_seq ?_
            refine g_keep [0, 2, 3, 4, 5, 6, 7, 8, 9, 10] ?_
            refine g_region ?_
            first | refine sv rfl (y_move_take) ?_ | refine sv rfl (y_move) ?_
            first | refine sv rfl (y_fieldAddr Try.underlying48 rfl sz3) ?_ | refine sv rfl (y_fieldp_leaf Try.underlying48 rfl sz3) ?_
            first | refine sv rfl (y_load_leaf Try.underlying3) ?_ | refine sv rfl (y_loadp_leaf Try.underlying3) ?_
            refine sv rfl (y_convert Try.underlying3 Try.underlying61) ?_
            first | refine sv rfl (y_fieldAddr Try.underlying48 rfl sz3) ?_ | refine sv rfl (y_fieldp_leaf Try.underlying48 rfl sz3) ?_
            first | refine sv rfl (y_load_leaf Try.underlying3) ?_ | refine sv rfl (y_loadp_leaf Try.underlying3) ?_
            refine sv rfl (y_convert Try.underlying3 Try.underlying61) ?_
            refine sv rfl (y_mul) ?_
            refine sv rfl (y_add) ?_
            first | refine sv rfl (y_fieldAddr Try.underlying48 rfl sz3) ?_ | refine sv rfl (y_fieldp_leaf Try.underlying48 rfl sz3) ?_
            first | refine sv rfl (y_load_leaf Try.underlying3) ?_ | refine sv rfl (y_loadp_leaf Try.underlying3) ?_
            refine sv rfl (y_convert Try.underlying3 Try.underlying61) ?_
            refine sv rfl (y_mul) ?_
            refine sv rfl (y_add) ?_
            first | refine sv rfl (y_fieldAddr Try.underlying48 rfl sz3) ?_ | refine sv rfl (y_fieldp_leaf Try.underlying48 rfl sz3) ?_
            first | refine sv rfl (y_load_leaf Try.underlying3) ?_ | refine sv rfl (y_loadp_leaf Try.underlying3) ?_
            refine sv rfl (y_convert Try.underlying3 Try.underlying61) ?_
            refine sv rfl (y_mul) ?_
            refine sv rfl (y_add) ?_
            refine sv rfl (y_move) ?_
            refine sv rfl (y_convert Try.underlying3 Try.underlying61) ?_
            refine sv rfl (y_mul) ?_
            refine sv rfl (y_add) ?_
            refine sv rfl (y_buildSlice (xs := [.tmp 124]) Try.underlying45 inf61) ?_
            refine sv rfl (y_append Try.underlying45 inf61) ?_
            first | refine sv rfl (y_assign_take) ?_ | refine sv rfl (y_assign) ?_
            refine GOps_nil ?_
            refine thn_normal ?_
            refine G_seq ?_
            refine g_keep [0, 2, 3, 4, 5, 6, 7, 8, 9, 10] ?_
            refine g_region ?_
            refine sv rfl (y_move) ?_
            refine GOps_nil ?_
            refine thn_normal ?_
            refine g_cond (fun hb6 => ?_) (fun hb6 => ?_)
            ·
              have hwd : wideI x.op = true := by rw [← hfa.2.2]; exact hb6
              refine g_region ?_
              first | refine sv rfl (y_move_take) ?_ | refine sv rfl (y_move) ?_
              first | refine sv rfl (y_fieldAddr Try.underlying48 rfl sz3) ?_ | refine sv rfl (y_fieldp_leaf Try.underlying48 rfl sz3) ?_
              first | refine sv rfl (y_load_leaf Try.underlying3) ?_ | refine sv rfl (y_loadp_leaf Try.underlying3) ?_
              refine sv rfl (y_convert Try.underlying3 Try.underlying61) ?_
              refine sv rfl (y_buildSlice (xs := [.tmp 131]) Try.underlying45 inf61) ?_
              refine sv rfl (y_append Try.underlying45 inf61) ?_
              first | refine sv rfl (y_assign_take) ?_ | refine sv rfl (y_assign) ?_
              refine GOps_nil ?_
              refine blk_normal ?_
              refine thn_normal ?_
              refine g_region ?_
              refine sv rfl (y_move) ?_
              refine sv rfl (y_add) ?_
              refine sv rfl (y_assign) ?_
              refine GOps_nil ?_
              refine hn0 _ (z + 1, l ++ [.int .u64 (refW x t)] ++ [.int .u64 (u64w x.n)]) ⟨by show z + 1 ≤ xs.length; omega, acc ++ [wordI x, u64w x.n], by show l ++ [.int .u64 (refW x t)] ++ [.int .u64 (u64w x.n)] = _; rw [hl, hword]; simp [u64s], by show _ ≤ 2 * (z + 1); rw [List.length_append]; simp; omega, by rw [hstep]; simp only [encI, hA, hB, hwd]; rfl⟩ (by show xs.length - (z + 1) < xs.length - z; omega) le_of
            ·
              have hwd : wideI x.op = false := by rw [← hfa.2.2]; exact hb6
              refine G_skip ?_
              refine blk_normal ?_
              refine thn_normal ?_
              refine g_region ?_
              refine sv rfl (y_move) ?_
              refine sv rfl (y_add) ?_
              refine sv rfl (y_assign) ?_
              refine GOps_nil ?_
              refine hn0 _ (z + 1, l ++ [.int .u64 (refW x t)]) ⟨by show z + 1 ≤ xs.length; omega, acc ++ [wordI x], by show l ++ [.int .u64 (refW x t)] = _; rw [hl, hword]; simp [u64s], by show _ ≤ 2 * (z + 1); rw [List.length_append]; simp; omega, by rw [hstep]; simp only [encI, hA, hB, hwd]; rfl⟩ (by show xs.length - (z + 1) < xs.length - z; omega) le_of
    ·
      have hge : z = xs.length := by
        have : ¬ (z : Int) < (xs.map WIns.d).length := by simpa using hb1
        simp at this
        omega
      refine G_exit ?_
      refine thn_exit ?_
      refine he0 _ _ ?_
      refine blk_exit ?_
      refine thn_normal ?_
      refine G_seq ?_
      refine g_region ?_
      refine sv rfl (y_move) ?_
      first | refine sv rfl (y_assign_take) ?_ | refine sv rfl (y_assign) ?_
      refine sv rfl (y_assign) ?_
      refine GOps_nil ?_
      refine thn_normal ?_
      refine G_ret ?_
      have hsome : encS xs = some acc := by
        rw [hz2, hge, List.drop_length]; simp [encS]
      refine find2 (by simp) ?_
      exact ⟨by simp only [encR, if_neg hshort]; rw [hsome, hl], rfl⟩

end Go.Proofs.Ytphfdmagkgpgfaa
