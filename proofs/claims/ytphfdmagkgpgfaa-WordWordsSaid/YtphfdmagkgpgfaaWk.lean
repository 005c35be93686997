/- Contracts of functions. Conditions: none. -/
import Derived.Test.YtphfdmagkgpgfaaWj
namespace Go.Proofs.Ytphfdmagkgpgfaa
open Go Go.Proofs.Ytphfdmagkgpgfaa.E

/- WORDS, TAKEN APART -/
theorem uand_mod {x : Int} (h0 : 0 ≤ x) (h1 : x < 18446744073709551616) : IntKind.u64.wrap ((BitVec.ofInt 64 x &&& BitVec.ofInt 64 255).toNat) = x % 256 := by
  obtain ⟨x, rfl⟩ := Int.eq_ofNat_of_zero_le h0
  have e1 : BitVec.ofInt 64 (x : Int) = BitVec.ofNat 64 x := by rw [BitVec.ofInt_natCast]
  have e2 : BitVec.ofInt 64 255 = BitVec.ofNat 64 255 := by decide
  have e3 : x &&& 255 = x % 256 := Nat.and_two_pow_sub_one_eq_mod x 8
  rw [e1, e2, BitVec.toNat_and, BitVec.toNat_ofNat, BitVec.toNat_ofNat, Nat.mod_eq_of_lt (by omega), Nat.mod_eq_of_lt (by omega), e3]
  have e4 : (((x % 256 : Nat)) : Int) = (x : Int) % 256 := by omega
  rw [e4]
  exact IntWalk.u64_in _ ⟨by omega, by omega⟩
theorem i64_byte {x : Int} (h0 : 0 ≤ x) (h1 : x ≤ 255) : IntKind.i64.wrap x = x := wrap_i64 (by omega) (by omega)
theorem quo64 {x d : Int} (h0 : 0 ≤ x) (h1 : x < 18446744073709551616) (hd : 0 < d) : IntKind.u64.wrap (x.tdiv d) = x / d := by
  rw [Int.tdiv_eq_ediv_of_nonneg h0]
  exact IntWalk.u64_in _ ⟨Int.ediv_nonneg h0 (by omega), by have := Int.ediv_le_self d h0; omega⟩
theorem byte_le (x : Int) : 0 ≤ x % 256 ∧ x % 256 ≤ 255 := by omega
def textOf (t : Int) : ByteArray := if t > 0 then (textsB[(t - 1).toNat]?).getD ⟨#[]⟩ else ⟨#[]⟩
/-- A word's instruction, with its second word. -/
def decW (x n : Int) : WIns := ⟨x / 1 % 256, x / 256 % 256, x / 65536 % 256, x / 16777216 % 256, n, textOf (x / 4294967296 % 256)⟩
def badD (x : Int) : Bool := (((x / 1099511627776 != 0) || !(knownI (x / 1 % 256))) || decide (x / 4294967296 % 256 > 17)) || (decide (x / 4294967296 % 256 > 0) != (x / 1 % 256 == 5))
def decS : List Int → Option (List WIns)
  | [] => some []
  | [x] => if badD x then none else if wideI (x / 1 % 256) then none else some [decW x 0]
  | x :: n :: r => if badD x then none else if wideI (x / 1 % 256) then (decS r).map (decW x (IntKind.i64.wrap n) :: ·) else (decS (n :: r)).map (decW x 0 :: ·)
def decR (ws : List Int) : PV :=
  if (ws.length : Int) > 320000 then .tup [.d (.sl []), .d (.int .i64 5)] else
  match decS ws with
  | none => .tup [.d (.sl []), .d (.int .i64 290)]
  | some xs => .tup [.d (insD xs), .d (.int .i64 0)]
def Words (ws : List Int) : Prop := ∀ x ∈ ws, 0 ≤ x ∧ x < 18446744073709551616
theorem u64s_cells (xs : List Int) : ∀ x ∈ u64s xs, x.cells.length = 1 := fun x hx => by
  simp only [u64s, List.mem_map] at hx
  obtain ⟨n, _, rfl⟩ := hx
  rfl
theorem dec_bad {ws r : List Int} {x : Int} {acc : List WIns} (h : decS ws = (decS (x :: r)).map (acc ++ ·)) (hb : badD x = true) : decS ws = none := by
  rw [h]
  cases r <;> simp [decS, hb]
theorem dec_one {ws r : List Int} {x : Int} {acc : List WIns} (h : decS ws = (decS (x :: r)).map (acc ++ ·)) (hb : badD x = false) (hw : wideI (x / 1 % 256) = false) : decS ws = (decS r).map ((acc ++ [decW x 0]) ++ ·) := by
  rw [h]
  have : decS (x :: r) = (decS r).map (decW x 0 :: ·) := by
    cases r with
    | nil =>
      have e : decS [x] = some [decW x 0] := by rw [decS, hb, hw]; rfl
      rw [e]; rfl
    | cons n r => rw [decS, hb, hw]; rfl
  rw [this, Option.map_map]; congr 1; funext q; simp
theorem dec_short {ws : List Int} {x : Int} {acc : List WIns} (h : decS ws = (decS [x]).map (acc ++ ·)) (hb : badD x = false) (hw : wideI (x / 1 % 256) = true) : decS ws = none := by
  rw [h, decS, hb, hw]; rfl
theorem dec_two {ws r : List Int} {x n : Int} {acc : List WIns} (h : decS ws = (decS (x :: n :: r)).map (acc ++ ·)) (hb : badD x = false) (hw : wideI (x / 1 % 256) = true) : decS ws = (decS r).map ((acc ++ [decW x (IntKind.i64.wrap n)]) ++ ·) := by
  rw [h]
  have : decS (x :: n :: r) = (decS r).map (decW x (IntKind.i64.wrap n) :: ·) := by rw [decS, hb, hw]; rfl
  rw [this, Option.map_map]; congr 1; funext q; simp
theorem text_at {t : Int} (h0 : 0 < t) (h1 : t ≤ 17) : textsD[(t - 1).toNat]? = some (.str (textOf t)) := by
  have hl : (t - 1).toNat < textsB.length := by show (t - 1).toNat < 17; omega
  rw [textsD, List.getElem?_map, textOf, if_pos h0, List.getElem?_eq_getElem hl]; rfl
theorem text_no {t : Int} (h0 : ¬ t > 0) : textOf t = ⟨#[]⟩ := if_neg h0
theorem badD_in {x : Int} (h : badD x = false) : knownI (x / 1 % 256) = true ∧ x / 4294967296 % 256 ≤ 17 := by
  simp only [badD, Bool.or_eq_false_iff, Bool.not_eq_false', decide_eq_false_iff_not] at h
  exact ⟨h.1.1.2, by omega⟩

theorem c57 (x d : Int) (n : Nat) (hn : n ≤ 63) (hd : (2 : Int) ^ n = d) (h0 : 0 ≤ x) (h1 : x < 18446744073709551616) : Pf Try.prog 57 [.int .i64 (n : Int), .ptr (.int .u64 x)] (.d (.int .i64 (x / d % 256))) := by
  refine pf_body (rvs := [.tmp 3]) [(0, .d (.int .i64 (n : Int))), (1, .d (.ptr (.int .u64 x)))] Try.func57 Try.ntmps57 Try.results57 (fun S0 O0 w0 m0 hm0 => ?_)
  refine G_seq ?_
  refine g_region ?_
  refine sv rfl (y_assign) ?_
  refine GOps_nil ?_
  refine thn_normal ?_
  refine G_seq ?_
  refine g_region ?_
  have hd0 : 0 < d := by rw [← hd]; exact Int.pow_pos (by decide)
  have hq0 : 0 ≤ x / d := Int.ediv_nonneg h0 (by omega)
  have hq1 : x / d < 18446744073709551616 := by have := Int.ediv_le_self d h0; omega
  have hmin : min (n : Int).toNat IntKind.u64.bits = n := by show min (n : Int).toNat 64 = n; omega
  have hsh : x.fdiv (2 ^ (min (n : Int).toNat IntKind.u64.bits)) = x / d := by rw [hmin, hd, Int.fdiv_eq_ediv_of_nonneg x (by omega)]
  refine sv rfl (y_loadp_leaf Try.underlying61) ?_
  refine sv rfl (y_move) ?_
  refine sv rfl (y_shift (by omega) (show (if BinOp.shr = BinOp.shl then _ else x.fdiv (2 ^ (min (n : Int).toNat IntKind.u64.bits))) = x / d by rw [if_neg (by decide), hsh])) ?_
  refine sv rfl (y_bits (show Op.intBits .and .u64 (x / d) 255 = pure (Value.int .u64 (x / d % 256)) by rw [intBits_and]; congr 2; exact uand_mod hq0 hq1)) ?_
  refine sv rfl (y_convert Try.underlying61 Try.underlying3 (hw := i64_byte (byte_le _).1 (byte_le _).2)) ?_
  refine sv rfl (y_assign) ?_
  refine GOps_nil ?_
  refine thn_normal ?_
  refine G_ret ?_
  refine fin1 (by simp) ?_
  exact ⟨rfl, rfl⟩

set_option maxHeartbeats 4000000 in
theorem c30 (ws : List Int) (hlim : ws.length ≤ 1000000000) (hwords : Words ws) : Pf Try.prog 30 [.sl (u64s ws)] (decR ws) := by
  refine pf_body (rvs := [.tmp 2, .tmp 3]) [(0, .d (.sl (u64s ws)))] Try.func30 Try.ntmps30 Try.results30 (fun S0 O0 w0 m0 hm0 => ?_)
  refine G_seq ?_
  refine g_region ?_
  refine sv rfl (y_assign) ?_
  refine sv rfl (y_assign) ?_
  refine GOps_nil ?_
  refine thn_normal ?_
  refine G_seq ?_
  refine G_seq ?_
  refine g_region ?_
  refine sv rfl (y_move) ?_
  refine sv rfl (y_len Try.underlying45) ?_
  refine sv rfl (y_gtr) ?_
  refine GOps_nil ?_
  refine thn_normal ?_
  refine g_cond (fun hb0 => ?_) (fun hb0 => ?_)
  ·
    have hlong : (ws.length : Int) > 320000 := by simpa [u64s] using hb0
    refine G_seq ?_
    refine g_region ?_
    refine sv rfl (y_assign) ?_
    refine sv rfl (y_assign) ?_
    refine GOps_nil ?_
    refine thn_normal ?_
    refine G_ret ?_
    refine thn_ret ?_
    refine find2 (by simp) ?_
    exact ⟨by simp only [decR, if_pos hlong], rfl⟩
  ·
    have hshort : ¬ ((ws.length : Int) > 320000) := by simpa [u64s] using hb0
    have hsh : ws.length ≤ 320000 := by omega
    refine G_skip ?_
    refine thn_normal ?_
    refine G_seq ?_
    refine g_region ?_
    refine g_call (xs := []) rfl (c47) ?_
    refine g_call (xs := []) rfl (c48) ?_
    refine sv rfl (y_alloc zr85) ?_
    first | refine sa rfl (d_store sz85) ?_ | refine sa rfl (d_store_take sz85) ?_
    first | refine sv rfl (y_assign_take) ?_ | refine sv rfl (y_assign) ?_
    refine GOps_nil ?_
    refine thn_normal ?_
    refine G_seq ?_
    refine g_region ?_
    refine g_freeze 0 [] (.agg formsD) (cs := formsD.map .d) (ds := formsD) rfl ?_ (hds := rfl)
    refine sv rfl (y_assign) ?_
    refine GOps_nil ?_
    refine thn_normal ?_
    refine G_seq ?_
    refine G_block ?_
    refine g_loop (α := List Int × List D) (fun z => ⟨[(6, .osl 6 z.2), (5, .d (.sl textsD)), (4, .d (.ptr (.agg formsD))), (0, .d (.sl (u64s z.1)))], []⟩) (fun z => z.1.length) (fun z => Words z.1 ∧ ∃ acc : List WIns, z.2 = acc.map WIns.d ∧ acc.length + z.1.length ≤ ws.length ∧ decS ws = (decS z.1).map (acc ++ ·)) (ws, []) ⟨hwords, [], rfl, by simp, by simp⟩ (fun z hz Q' hn0 he0 hr0 => ?_) (le_of)
    obtain ⟨rest, l⟩ := z
    obtain ⟨hws, acc, hl, hal, hz2⟩ := hz
    replace hws : Words rest := hws
    replace hl : l = acc.map WIns.d := hl
    replace hal : acc.length + rest.length ≤ ws.length := hal
    replace hz2 : decS ws = (decS rest).map (acc ++ ·) := hz2
    have hll : l.length = acc.length := by rw [hl, List.length_map]
    refine G_seq ?_
    refine G_seq ?_
    refine g_region ?_
    refine sv rfl (y_move) ?_
    refine sv rfl (y_len Try.underlying45) ?_
    refine sv rfl (y_gtr) ?_
    refine GOps_nil ?_
    refine thn_normal ?_
    refine g_cond (fun hb1 => ?_) (fun hb1 => ?_)
    ·
      obtain ⟨x, r, rfl⟩ : ∃ x r, rest = x :: r := by
        cases rest with
        | nil => simp [u64s] at hb1
        | cons x r => exact ⟨x, r, rfl⟩
      have hx : (u64s (x :: r))[(0 : Int).toNat]? = some (.int .u64 x) := rfl
      obtain ⟨hx0, hx1⟩ := hws x (by simp)
      have hsl : (1 : Int) ≤ ((u64s (x :: r)).length : Nat) := by simp [u64s]; omega
      refine G_skip ?_
      refine thn_normal ?_
      refine G_block ?_
      refine G_seq ?_
      refine g_region ?_
      refine sv rfl (y_move) ?_
      refine sv rfl (y_indexAddr Try.underlying45 sz61) ?_
      first | refine sv rfl (y_load_leaf Try.underlying61) ?_ | refine sv rfl (y_loadp_leaf Try.underlying61) ?_
      refine sv rfl (y_alloc zr61) ?_
      first | refine sa rfl (d_store sz61) ?_ | refine sa rfl (d_store_take sz61) ?_
      refine GOps_nil ?_
      refine thn_normal ?_
      refine G_seq ?_
      refine g_region ?_
      refine sv rfl (y_move) ?_
      refine sv rfl (Yld_pure rfl (of_decide_eq_true rfl) (q_slicel Try.underlying45 sz61 (u64s_cells _) (ys := u64s r) (h1 := hsl))) ?_
      first | refine sv rfl (y_assign_take) ?_ | refine sv rfl (y_assign) ?_
      refine GOps_nil ?_
      refine thn_normal ?_
      refine G_seq ?_
      refine g_region ?_
      refine g_freeze 0 [] (.int .u64 x) rfl ?_
      refine sv rfl (y_makeFunc (xs := []) (ys := [.tmp 7])) ?_
      refine sv rfl (y_assign) ?_
      refine GOps_nil ?_
      refine thn_normal ?_
      refine G_seq ?_
      refine g_keep [0, 2, 3, 4, 5, 6, 7, 8, 9, 10] ?_
      refine g_region ?_
      refine sv rfl (y_move) ?_
      refine g_call (xs := [.const (.int .i64 (0))]) rfl (c57 x 1 0 (by decide) (by decide) hx0 hx1) ?_
      refine sv rfl (y_move) ?_
      refine g_call (xs := [.const (.int .i64 (8))]) rfl (c57 x 256 8 (by decide) (by decide) hx0 hx1) ?_
      refine sv rfl (y_move) ?_
      refine g_call (xs := [.const (.int .i64 (16))]) rfl (c57 x 65536 16 (by decide) (by decide) hx0 hx1) ?_
      refine sv rfl (y_move) ?_
      refine g_call (xs := [.const (.int .i64 (24))]) rfl (c57 x 16777216 24 (by decide) (by decide) hx0 hx1) ?_
      refine sv rfl (y_buildS pl63 zr63) ?_
      refine sv rfl (y_alloc zr63) ?_
      first | refine sa rfl (d_store sz63) ?_ | refine sa rfl (d_store_take sz63) ?_
      refine GOps_nil ?_
      refine thn_normal ?_
      refine G_seq ?_
      refine g_region ?_
      refine sv rfl (y_move) ?_
      refine g_call (xs := [.const (.int .i64 (32))]) rfl (c57 x 4294967296 32 (by decide) (by decide) hx0 hx1) ?_
      refine sv rfl (y_assign) ?_
      refine GOps_nil ?_
      refine thn_normal ?_
      refine G_seq ?_
      refine G_seq ?_
      refine g_keep [0, 2, 3, 4, 5, 6, 7, 8, 9, 10] ?_
      refine g_region ?_
      first | refine sv rfl (y_load_leaf Try.underlying61) ?_ | refine sv rfl (y_loadp_leaf Try.underlying61) ?_
      refine sv rfl (y_shift (show (0 : Int) ≤ 40 by decide) (show (if BinOp.shr = BinOp.shl then _ else x.fdiv (2 ^ (min (40 : Int).toNat IntKind.u64.bits))) = x / 1099511627776 by rw [if_neg (by decide)]; exact Int.fdiv_eq_ediv_of_nonneg x (by decide))) ?_
      refine sv rfl (y_neq) ?_
      refine sv rfl (y_move) ?_
      first | refine sg rfl (fun hg => q_fieldAddr Try.underlying63 rfl sz3) ?_ | refine sg rfl (fun hg => q_fieldp_leaf Try.underlying63 rfl sz3) ?_
      first | refine sg rfl (fun hg => strip 40 (by simp only [GS.set, GS.get, List.lookup_cons, Nat.reduceBEq] <;> rfl) hg (q_load_leaf Try.underlying3)) ?_ | refine sg rfl (fun hg => strip 40 (by simp only [GS.set, GS.get, List.lookup_cons, Nat.reduceBEq] <;> rfl) hg (q_loadp_leaf Try.underlying3)) ?_
      refine g_callg (xs := [.tmp 41]) rfl (fun hg => c49 (x / 1 % 256)) ?_
      refine sg rfl (fun hg => strip 42 (by simp only [GS.set, GS.get, List.lookup_cons, Nat.reduceBEq] <;> rfl) hg (q_not)) ?_
      refine sv rfl (y_or) ?_
      refine sv rfl (y_move) ?_
      refine sg rfl (fun hg => q_move) ?_
      refine sg rfl (fun hg => q_move) ?_
      refine sg rfl (fun hg => strip 47 (by simp only [GS.set, GS.get, List.lookup_cons, Nat.reduceBEq] <;> rfl) hg (q_len Try.underlying79)) ?_
      refine sg rfl (fun hg => strip 48 (by simp only [GS.set, GS.get, List.lookup_cons, Nat.reduceBEq] <;> rfl) hg (strip 46 (by simp only [GS.set, GS.get, List.lookup_cons, Nat.reduceBEq] <;> rfl) hg (q_gtr))) ?_
      refine sv rfl (y_or) ?_
      refine sv rfl (y_move) ?_
      refine sg rfl (fun hg => q_move) ?_
      refine sg rfl (fun hg => strip 52 (by simp only [GS.set, GS.get, List.lookup_cons, Nat.reduceBEq] <;> rfl) hg (q_gtr)) ?_
      first | refine sg rfl (fun hg => q_fieldAddr Try.underlying63 rfl sz3) ?_ | refine sg rfl (fun hg => q_fieldp_leaf Try.underlying63 rfl sz3) ?_
      first | refine sg rfl (fun hg => strip 54 (by simp only [GS.set, GS.get, List.lookup_cons, Nat.reduceBEq] <;> rfl) hg (q_load_leaf Try.underlying3)) ?_ | refine sg rfl (fun hg => strip 54 (by simp only [GS.set, GS.get, List.lookup_cons, Nat.reduceBEq] <;> rfl) hg (q_loadp_leaf Try.underlying3)) ?_
      refine sg rfl (fun hg => strip 55 (by simp only [GS.set, GS.get, List.lookup_cons, Nat.reduceBEq] <;> rfl) hg (q_eql)) ?_
      refine sg rfl (fun hg => strip 56 (by simp only [GS.set, GS.get, List.lookup_cons, Nat.reduceBEq] <;> rfl) hg (strip 53 (by simp only [GS.set, GS.get, List.lookup_cons, Nat.reduceBEq] <;> rfl) hg (q_boolne Try.underlying4))) ?_
      refine sv rfl (y_or) ?_
      refine GOps_nil ?_
      refine thn_normal ?_
      refine g_cond (fun hb2 => ?_) (fun hb2 => ?_)
      ·
        have hB : badD x = true := hb2
        have hnone := dec_bad hz2 hB
        refine G_seq ?_
        refine g_keep [0, 2, 3, 4, 5, 6, 7, 8, 9, 10] ?_
        refine g_region ?_
        refine sv rfl (y_assign) ?_
        refine sv rfl (y_assign) ?_
        refine GOps_nil ?_
        refine thn_normal ?_
        refine G_ret ?_
        refine thn_ret ?_
        refine blk_ret ?_
        refine hr0 _ ?_
        refine blk_ret ?_
        refine thn_ret ?_
        refine find2 (by simp) ?_
        exact ⟨by simp only [decR, if_neg hshort]; rw [hnone], rfl⟩
      ·
        have hB : badD x = false := hb2
        obtain ⟨hkn, ht17⟩ := badD_in hB
        obtain ⟨fv, fs, hform, hwide⟩ := forms_at hkn
        have hop1 := known_cases hkn
        have hby := byte_le (x / 4294967296)
        refine G_skip ?_
        refine thn_normal ?_
        refine G_seq ?_
        refine G_seq ?_
        refine g_keep [0, 2, 3, 4, 5, 6, 7, 8, 9, 10] ?_
        refine g_region ?_
        refine sv rfl (y_move) ?_
        refine sv rfl (y_gtr) ?_
        refine GOps_nil ?_
        refine thn_normal ?_
        refine g_cond (fun hb3 => ?_) (fun hb3 => ?_)
        ·
          have htp : x / 4294967296 % 256 > 0 := by simpa using hb3
          have hx2 := text_at htp ht17
          refine g_region ?_
          refine sv rfl (y_move) ?_
          refine sv rfl (y_move) ?_
          refine sv rfl (y_sub) ?_
          refine sv rfl (y_indexAddr Try.underlying79 sz9) ?_
          first | refine sv rfl (y_load_leaf Try.underlying9) ?_ | refine sv rfl (y_loadp_leaf Try.underlying9) ?_
          first | refine sv rfl (y_fieldAddr Try.underlying63 rfl sz9) ?_ | refine sv rfl (y_fieldp_leaf Try.underlying63 rfl sz9) ?_
          first | refine sa rfl (d_store sz9) ?_ | refine sa rfl (d_store_take sz9) ?_
          refine GOps_nil ?_
          refine thn_normal ?_
          refine G_seq ?_
          refine G_seq ?_
          refine g_region ?_
          first | refine sv rfl (y_fieldAddr Try.underlying63 rfl sz3) ?_ | refine sv rfl (y_fieldp_leaf Try.underlying63 rfl sz3) ?_
          first | refine sv rfl (y_load_leaf Try.underlying3) ?_ | refine sv rfl (y_loadp_leaf Try.underlying3) ?_
          refine sv rfl (Yld_pure rfl (of_decide_eq_true rfl) (q_indexArrP Try.underlying85 sz84 (by omega) hform)) ?_
          refine sv rfl (y_loadp_agg (ds := [.str fv, .str fs]) sz84 Try.underlying84 rfl) ?_
          refine g_call (xs := [.tmp 70, .const (.int .u8 (78))]) rfl (c52 fv fs 78) ?_
          refine GOps_nil ?_
          refine thn_normal ?_
          refine g_cond (fun hb4 => ?_) (fun hb4 => ?_)
          ·
            have hwd : wideI (x / 1 % 256) = true := by rw [← hwide]; exact hb4
            refine G_seq ?_
            refine G_seq ?_
            refine g_keep [0, 2, 3, 4, 5, 6, 7, 8, 9, 10] ?_
            refine g_region ?_
            refine sv rfl (y_move) ?_
            refine sv rfl (y_len Try.underlying45) ?_
            refine sv rfl (y_eql) ?_
            refine GOps_nil ?_
            refine thn_normal ?_
            refine g_cond (fun hb5 => ?_) (fun hb5 => ?_)
            ·
              have hr0 : r = [] := by
                cases r with
                | nil => rfl
                | cons y r' => exfalso; simp [u64s] at hb5; try omega
              subst hr0
              have hnone := dec_short hz2 hB hwd
              refine G_seq ?_
              refine g_region ?_
              refine sv rfl (y_assign) ?_
              refine sv rfl (y_assign) ?_
              refine GOps_nil ?_
              refine thn_normal ?_
              refine G_ret ?_
              refine thn_ret ?_
              refine thn_ret ?_
              refine blk_ret ?_
              refine hr0 _ ?_
              refine blk_ret ?_
              refine thn_ret ?_
              refine find2 (by simp) ?_
              exact ⟨by simp only [decR, if_neg hshort]; rw [hnone], rfl⟩
            ·
              obtain ⟨n, r', rfl⟩ : ∃ n r', r = n :: r' := by
                cases r with
                | nil => simp [u64s] at hb5
                | cons y r' => exact ⟨y, r', rfl⟩
              have hx3 : (u64s (n :: r'))[(0 : Int).toNat]? = some (.int .u64 n) := rfl
              have hsl2 : (1 : Int) ≤ ((u64s (n :: r')).length : Nat) := by simp [u64s]; omega
              refine G_skip ?_
              refine thn_normal ?_
              refine G_seq ?_
              refine g_region ?_
              refine sv rfl (y_move) ?_
              refine sv rfl (y_indexAddr Try.underlying45 sz61) ?_
              first | refine sv rfl (y_load_leaf Try.underlying61) ?_ | refine sv rfl (y_loadp_leaf Try.underlying61) ?_
              refine sv rfl (y_convert Try.underlying61 Try.underlying3) ?_
              first | refine sv rfl (y_fieldAddr Try.underlying63 rfl sz3) ?_ | refine sv rfl (y_fieldp_leaf Try.underlying63 rfl sz3) ?_
              first | refine sa rfl (d_store sz3) ?_ | refine sa rfl (d_store_take sz3) ?_
              refine GOps_nil ?_
              refine thn_normal ?_
              refine g_region ?_
              refine sv rfl (y_move) ?_
              refine sv rfl (Yld_pure rfl (of_decide_eq_true rfl) (q_slicel Try.underlying45 sz61 (u64s_cells _) (ys := u64s r') (h1 := hsl2))) ?_
              first | refine sv rfl (y_assign_take) ?_ | refine sv rfl (y_assign) ?_
              refine GOps_nil ?_
              refine thn_normal ?_
              refine g_keep [0, 2, 3, 4, 5, 6, 7, 8, 9, 10] ?_
              refine g_region ?_
              first | refine sv rfl (y_move_take) ?_ | refine sv rfl (y_move) ?_
              first | refine sv rfl (y_load_agg sz63 Try.underlying63 rfl) ?_ | refine sv rfl (y_loadp_agg sz63 Try.underlying63 rfl) ?_
              refine sv rfl (y_buildSlice (xs := [.tmp 83]) Try.underlying53 inf63) ?_
              refine sv rfl (y_append Try.underlying53 inf63) ?_
              first | refine sv rfl (y_assign_take) ?_ | refine sv rfl (y_assign) ?_
              refine GOps_nil ?_
              refine blk_normal ?_
              refine hn0 _ (r', l ++ [(decW x (IntKind.i64.wrap n)).d]) ⟨fun y hy => hws y (by simp [hy]), acc ++ [decW x (IntKind.i64.wrap n)], by show _ = _; rw [hl]; simp, by show _ + _ ≤ _; rw [List.length_append]; simp at hal ⊢; omega, dec_two hz2 hB hwd⟩ (by show List.length _ < List.length _; simp; try omega) le_of
          ·
            have hwd : wideI (x / 1 % 256) = false := by rw [← hwide]; exact hb4
            refine G_skip ?_
            refine thn_normal ?_
            refine g_keep [0, 2, 3, 4, 5, 6, 7, 8, 9, 10] ?_
            refine g_region ?_
            first | refine sv rfl (y_move_take) ?_ | refine sv rfl (y_move) ?_
            first | refine sv rfl (y_load_agg sz63 Try.underlying63 rfl) ?_ | refine sv rfl (y_loadp_agg sz63 Try.underlying63 rfl) ?_
            refine sv rfl (y_buildSlice (xs := [.tmp 83]) Try.underlying53 inf63) ?_
            refine sv rfl (y_append Try.underlying53 inf63) ?_
            first | refine sv rfl (y_assign_take) ?_ | refine sv rfl (y_assign) ?_
            refine GOps_nil ?_
            refine blk_normal ?_
            refine hn0 _ (r, l ++ [(decW x 0).d]) ⟨fun y hy => hws y (by simp [hy]), acc ++ [decW x 0], by show _ = _; rw [hl]; simp, by show _ + _ ≤ _; rw [List.length_append]; simp at hal ⊢; omega, dec_one hz2 hB hwd⟩ (by show List.length _ < List.length _; simp; try omega) le_of
        ·
          have htp : ¬ x / 4294967296 % 256 > 0 := by simpa using hb3
          have htx := text_no htp
          refine G_skip ?_
          refine thn_normal ?_
          refine G_seq ?_
          refine G_seq ?_
          refine g_region ?_
          first | refine sv rfl (y_fieldAddr Try.underlying63 rfl sz3) ?_ | refine sv rfl (y_fieldp_leaf Try.underlying63 rfl sz3) ?_
          first | refine sv rfl (y_load_leaf Try.underlying3) ?_ | refine sv rfl (y_loadp_leaf Try.underlying3) ?_
          refine sv rfl (Yld_pure rfl (of_decide_eq_true rfl) (q_indexArrP Try.underlying85 sz84 (by omega) hform)) ?_
          refine sv rfl (y_loadp_agg (ds := [.str fv, .str fs]) sz84 Try.underlying84 rfl) ?_
          refine g_call (xs := [.tmp 70, .const (.int .u8 (78))]) rfl (c52 fv fs 78) ?_
          refine GOps_nil ?_
          refine thn_normal ?_
          refine g_cond (fun hb6 => ?_) (fun hb6 => ?_)
          ·
            have hwd : wideI (x / 1 % 256) = true := by rw [← hwide]; exact hb6
            refine G_seq ?_
            refine G_seq ?_
            refine g_region ?_
            refine sv rfl (y_move) ?_
            refine sv rfl (y_len Try.underlying45) ?_
            refine sv rfl (y_eql) ?_
            refine GOps_nil ?_
            refine thn_normal ?_
            refine g_cond (fun hb7 => ?_) (fun hb7 => ?_)
            ·
              have hr0 : r = [] := by
                cases r with
                | nil => rfl
                | cons y r' => exfalso; simp [u64s] at hb7; try omega
              subst hr0
              have hnone := dec_short hz2 hB hwd
              refine G_seq ?_
              refine g_region ?_
              refine sv rfl (y_assign) ?_
              refine sv rfl (y_assign) ?_
              refine GOps_nil ?_
              refine thn_normal ?_
              refine G_ret ?_
              refine thn_ret ?_
              refine thn_ret ?_
              refine blk_ret ?_
              refine hr0 _ ?_
              refine blk_ret ?_
              refine thn_ret ?_
              refine find2 (by simp) ?_
              exact ⟨by simp only [decR, if_neg hshort]; rw [hnone], rfl⟩
            ·
              obtain ⟨n, r', rfl⟩ : ∃ n r', r = n :: r' := by
                cases r with
                | nil => simp [u64s] at hb7
                | cons y r' => exact ⟨y, r', rfl⟩
              have hx3 : (u64s (n :: r'))[(0 : Int).toNat]? = some (.int .u64 n) := rfl
              have hsl2 : (1 : Int) ≤ ((u64s (n :: r')).length : Nat) := by simp [u64s]; omega
              refine G_skip ?_
              refine thn_normal ?_
              refine G_seq ?_
              refine g_region ?_
              refine sv rfl (y_move) ?_
              refine sv rfl (y_indexAddr Try.underlying45 sz61) ?_
              first | refine sv rfl (y_load_leaf Try.underlying61) ?_ | refine sv rfl (y_loadp_leaf Try.underlying61) ?_
              refine sv rfl (y_convert Try.underlying61 Try.underlying3) ?_
              first | refine sv rfl (y_fieldAddr Try.underlying63 rfl sz3) ?_ | refine sv rfl (y_fieldp_leaf Try.underlying63 rfl sz3) ?_
              first | refine sa rfl (d_store sz3) ?_ | refine sa rfl (d_store_take sz3) ?_
              refine GOps_nil ?_
              refine thn_normal ?_
              refine g_keep [0, 2, 3, 4, 5, 6, 7, 8, 9, 10] ?_
              refine g_region ?_
              refine sv rfl (y_move) ?_
              refine sv rfl (Yld_pure rfl (of_decide_eq_true rfl) (q_slicel Try.underlying45 sz61 (u64s_cells _) (ys := u64s r') (h1 := hsl2))) ?_
              first | refine sv rfl (y_assign_take) ?_ | refine sv rfl (y_assign) ?_
              refine GOps_nil ?_
              refine thn_normal ?_
              refine g_region ?_
              first | refine sv rfl (y_move_take) ?_ | refine sv rfl (y_move) ?_
              first | refine sv rfl (y_load_agg sz63 Try.underlying63 rfl) ?_ | refine sv rfl (y_loadp_agg sz63 Try.underlying63 rfl) ?_
              refine sv rfl (y_buildSlice (xs := [.tmp 83]) Try.underlying53 inf63) ?_
              refine sv rfl (y_append Try.underlying53 inf63) ?_
              first | refine sv rfl (y_assign_take) ?_ | refine sv rfl (y_assign) ?_
              refine GOps_nil ?_
              refine blk_normal ?_
              refine hn0 _ (r', l ++ [.agg [.int .i64 (x / 1 % 256), .int .i64 (x / 256 % 256), .int .i64 (x / 65536 % 256), .int .i64 (x / 16777216 % 256), .int .i64 (IntKind.i64.wrap n), .str ⟨#[]⟩]]) ⟨fun y hy => hws y (by simp [hy]), acc ++ [decW x (IntKind.i64.wrap n)], by show _ = _; rw [hl]; simp [WIns.d, decW, htx], by show _ + _ ≤ _; rw [List.length_append]; simp at hal ⊢; omega, dec_two hz2 hB hwd⟩ (by show List.length _ < List.length _; simp; try omega) le_of
          ·
            have hwd : wideI (x / 1 % 256) = false := by rw [← hwide]; exact hb6
            refine G_skip ?_
            refine thn_normal ?_
            refine g_region ?_
            first | refine sv rfl (y_move_take) ?_ | refine sv rfl (y_move) ?_
            first | refine sv rfl (y_load_agg sz63 Try.underlying63 rfl) ?_ | refine sv rfl (y_loadp_agg sz63 Try.underlying63 rfl) ?_
            refine sv rfl (y_buildSlice (xs := [.tmp 83]) Try.underlying53 inf63) ?_
            refine sv rfl (y_append Try.underlying53 inf63) ?_
            first | refine sv rfl (y_assign_take) ?_ | refine sv rfl (y_assign) ?_
            refine GOps_nil ?_
            refine blk_normal ?_
            refine hn0 _ (r, l ++ [.agg [.int .i64 (x / 1 % 256), .int .i64 (x / 256 % 256), .int .i64 (x / 65536 % 256), .int .i64 (x / 16777216 % 256), .int .i64 0, .str ⟨#[]⟩]]) ⟨fun y hy => hws y (by simp [hy]), acc ++ [decW x 0], by show _ = _; rw [hl]; simp [WIns.d, decW, htx], by show _ + _ ≤ _; rw [List.length_append]; simp at hal ⊢; omega, dec_one hz2 hB hwd⟩ (by show List.length _ < List.length _; simp; try omega) le_of
    ·
      have hrest : rest = [] := by
        cases rest with
        | nil => rfl
        | cons x r => exfalso; simp [u64s] at hb1; try omega
      refine G_exit ?_
      refine thn_exit ?_
      refine he0 _ _ ?_
      refine blk_exit ?_
      refine thn_normal ?_
      refine G_seq ?_
      refine g_region ?_
      refine sv rfl (y_move) ?_
      first | refine sv rfl (y_assign_take) ?_ | refine sv rfl (y_assign) ?_
      refine sv rfl (y_assign) ?_
      refine GOps_nil ?_
      refine thn_normal ?_
      refine G_ret ?_
      have hsome : decS ws = some acc := by
        rw [hz2, hrest]; simp [decS]
      refine find2 (by simp) ?_
      exact ⟨by simp only [decR, if_neg hshort]; rw [hsome, hl]; rfl, rfl⟩

end Go.Proofs.Ytphfdmagkgpgfaa
