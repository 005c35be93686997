/- Contracts of functions. Conditions: none. -/
import Derived.Test.YtphfdmagkgpgfaaWk
namespace Go.Proofs.Ytphfdmagkgpgfaa
open Go Go.Proofs.Ytphfdmagkgpgfaa.E

theorem Pf.data {P : Program} {f : FuncId} {args xs : List D} {k : Nat} (h : Pf P f args (.osl k xs)) : Pf P f args (.d (.sl xs)) :=
  ⟨h.1, fun w S O m vals h1 h2 h3 => (h.2 w S O m vals h1 h2 h3).mono fun e w' ⟨v, r, mem', S', O', m', he, hr, henv, hp, hrp⟩ => by
    obtain ⟨rfl, rfl⟩ := hr
    exact ⟨v, _, [], S', O', m', he, ⟨rfl, rfl⟩, henv, hp, hrp.wk (.inr (.inr (.inr (.inr ⟨_, _, rfl, rfl⟩))))⟩⟩
theorem rem1 {x : Int} (h0 : 0 ≤ x) : x.tmod 256 = x / 1 % 256 := by rw [Int.tmod_eq_emod_of_nonneg h0]; simp
theorem remq {x d : Int} (h0 : 0 ≤ x) (hd : 0 < d) : (x / d).tmod 256 = x / d % 256 := Int.tmod_eq_emod_of_nonneg (Int.ediv_nonneg h0 (by omega))
theorem quoq {x : Int} (h0 : 0 ≤ x) (h1 : x < 18446744073709551616) : IntKind.u64.wrap ((x / 4294967296).tdiv 256) = x / 1099511627776 := by
  rw [quo64 (by omega) (by omega) (by decide)]
  omega

set_option maxHeartbeats 4000000 in
theorem c31 (ws : List Int) (hlim : ws.length ≤ 1000000000) (hwords : Words ws) : Pf Try.prog 31 [.sl (u64s ws)] (decR ws) := by
  refine pf_body (rvs := [.tmp 2, .tmp 3]) [(0, .d (.sl (u64s ws)))] Try.func31 Try.ntmps31 Try.results31 (fun S0 O0 w0 m0 hm0 => ?_)
  refine G_seq ?_
  refine g_region ?_
  refine sv rfl (y_assign) ?_
  refine sv rfl (y_assign) ?_
  refine GOps_nil ?_
  refine thn_normal ?_
  refine G_seq ?_
  refine G_seq ?_
  refine g_region ?_
  refine sv rfl (y_move) ?_
  refine sv rfl (y_len Try.underlying45) ?_
  refine sv rfl (y_gtr) ?_
  refine GOps_nil ?_
  refine thn_normal ?_
  refine g_cond (fun hb0 => ?_) (fun hb0 => ?_)
  ·
    have hlong : (ws.length : Int) > 320000 := by simpa [u64s] using hb0
    refine G_seq ?_
    refine g_region ?_
    refine sv rfl (y_assign) ?_
    refine sv rfl (y_assign) ?_
    refine GOps_nil ?_
    refine thn_normal ?_
    refine G_ret ?_
    refine thn_ret ?_
    refine find2 (by simp) ?_
    exact ⟨by simp only [decR, if_pos hlong], rfl⟩
  ·
    have hshort : ¬ ((ws.length : Int) > 320000) := by simpa [u64s] using hb0
    have hsh : ws.length ≤ 320000 := by omega
    refine G_skip ?_
    refine thn_normal ?_
    refine G_seq ?_
    refine g_region ?_
    refine sv rfl (y_buildSlice (xs := []) Try.underlying44 inf48) ?_
    first | refine sv rfl (y_assign_take) ?_ | refine sv rfl (y_assign) ?_
    refine GOps_nil ?_
    refine thn_normal ?_
    refine G_seq ?_
    refine G_seq ?_
    refine g_region ?_
    refine sv rfl (y_assign) ?_
    refine GOps_nil ?_
    refine thn_normal ?_
    refine G_block ?_
    refine g_loop (α := Nat × List D) (fun z => ⟨[(5, .d (.int .i64 (z.1 : Nat))), (4, .osl 6 z.2), (0, .d (.sl (u64s ws)))], []⟩) (fun z => ws.length - z.1) (fun z => z.1 ≤ ws.length ∧ ∃ acc : List WIns, z.2 = acc.map WIns.d ∧ acc.length ≤ z.1 ∧ decS ws = (decS (ws.drop z.1)).map (acc ++ ·)) (0, []) ⟨Nat.zero_le _, [], rfl, by simp, by simp⟩ (fun z hz Q' hn0 he0 hr0 => ?_) (le_of)
    obtain ⟨z, l⟩ := z
    obtain ⟨hz1, acc, hl, hal, hz2⟩ := hz
    replace hz1 : z ≤ ws.length := hz1
    replace hl : l = acc.map WIns.d := hl
    replace hal : acc.length ≤ z := hal
    replace hz2 : decS ws = (decS (ws.drop z)).map (acc ++ ·) := hz2
    have hll : l.length = acc.length := by rw [hl, List.length_map]
    have hul : (u64s ws).length = ws.length := by simp [u64s]
    refine G_seq ?_
    refine G_seq ?_
    refine g_region ?_
    refine sv rfl (y_move) ?_
    refine sv rfl (y_move) ?_
    refine sv rfl (y_len Try.underlying45) ?_
    refine sv rfl (y_lss) ?_
    refine GOps_nil ?_
    refine thn_normal ?_
    refine g_cond (fun hb1 => ?_) (fun hb1 => ?_)
    ·
      have hlt : z < ws.length := by rw [hul] at hb1; simpa using hb1
      obtain ⟨x, hxe⟩ : ∃ x, ws[z] = x := ⟨_, rfl⟩
      have hxs : ws[z]? = some x := by rw [List.getElem?_eq_getElem hlt, hxe]
      have hx : (u64s ws)[z]? = some (.int .u64 x) := by rw [u64s, List.getElem?_map, hxs]; rfl
      obtain ⟨hx0, hx1⟩ := hwords x (by rw [← hxe]; exact List.getElem_mem hlt)
      have hdr : ws.drop z = x :: ws.drop (z + 1) := by rw [List.drop_eq_getElem_cons hlt, hxe]
      have hz3 : decS ws = (decS (x :: ws.drop (z + 1))).map (acc ++ ·) := by rw [← hdr]; exact hz2
      have hby := byte_le (x / 4294967296)
      refine G_skip ?_
      refine thn_normal ?_
      refine G_seq ?_
      refine G_block ?_
      refine G_seq ?_
      refine g_region ?_
      refine sv rfl (y_move) ?_
      refine sv rfl (y_move) ?_
      refine sv rfl (y_indexAddr Try.underlying45 sz61) ?_
      first | refine sv rfl (y_load_leaf Try.underlying61) ?_ | refine sv rfl (y_loadp_leaf Try.underlying61) ?_
      refine sv rfl (y_assign) ?_
      refine GOps_nil ?_
      refine thn_normal ?_
      refine G_seq ?_
      refine g_region ?_
      refine sv rfl (y_move) ?_
      refine sv rfl (y_rem (show (256 : Int) ≠ 0 by decide) (rem1 hx0)) ?_
      refine sv rfl (y_convert Try.underlying61 Try.underlying3 (hw := i64_byte (byte_le _).1 (byte_le _).2)) ?_
      refine sv rfl (y_move) ?_
      refine sv rfl (y_quo (show (256 : Int) ≠ 0 by decide) (quo64 (d := 256) hx0 hx1 (by decide))) ?_
      refine sv rfl (y_rem (show (256 : Int) ≠ 0 by decide) (remq (d := 256) hx0 (by decide))) ?_
      refine sv rfl (y_convert Try.underlying61 Try.underlying3 (hw := i64_byte (byte_le _).1 (byte_le _).2)) ?_
      refine sv rfl (y_move) ?_
      refine sv rfl (y_quo (show (65536 : Int) ≠ 0 by decide) (quo64 (d := 65536) hx0 hx1 (by decide))) ?_
      refine sv rfl (y_rem (show (256 : Int) ≠ 0 by decide) (remq (d := 65536) hx0 (by decide))) ?_
      refine sv rfl (y_convert Try.underlying61 Try.underlying3 (hw := i64_byte (byte_le _).1 (byte_le _).2)) ?_
      refine sv rfl (y_move) ?_
      refine sv rfl (y_quo (show (16777216 : Int) ≠ 0 by decide) (quo64 (d := 16777216) hx0 hx1 (by decide))) ?_
      refine sv rfl (y_rem (show (256 : Int) ≠ 0 by decide) (remq (d := 16777216) hx0 (by decide))) ?_
      refine sv rfl (y_convert Try.underlying61 Try.underlying3 (hw := i64_byte (byte_le _).1 (byte_le _).2)) ?_
      refine sv rfl (y_buildS pl48 zr48) ?_
      refine sv rfl (y_alloc zr48) ?_
      first | refine sa rfl (d_store sz48) ?_ | refine sa rfl (d_store_take sz48) ?_
      refine GOps_nil ?_
      refine thn_normal ?_
      refine G_seq ?_
      refine g_keep [0, 2, 3, 4, 5, 6, 7, 8] ?_
      refine g_region ?_
      refine sv rfl (y_move) ?_
      refine sv rfl (y_quo (show (4294967296 : Int) ≠ 0 by decide) (quo64 (d := 4294967296) hx0 hx1 (by decide))) ?_
      refine sv rfl (y_rem (show (256 : Int) ≠ 0 by decide) (remq (d := 4294967296) hx0 (by decide))) ?_
      refine sv rfl (y_convert Try.underlying61 Try.underlying3 (hw := i64_byte (byte_le _).1 (byte_le _).2)) ?_
      refine sv rfl (y_assign) ?_
      refine GOps_nil ?_
      refine thn_normal ?_
      refine G_seq ?_
      refine G_seq ?_
      refine g_region ?_
      refine sv rfl (y_move) ?_
      refine sv rfl (y_quo (show (4294967296 : Int) ≠ 0 by decide) (quo64 (d := 4294967296) hx0 hx1 (by decide))) ?_
      refine sv rfl (y_quo (show (256 : Int) ≠ 0 by decide) (quoq hx0 hx1)) ?_
      refine sv rfl (y_neq) ?_
      refine sv rfl (y_move) ?_
      first | refine sg rfl (fun hg => q_fieldAddr Try.underlying48 rfl sz3) ?_ | refine sg rfl (fun hg => q_fieldp_leaf Try.underlying48 rfl sz3) ?_
      first | refine sg rfl (fun hg => strip 48 (by simp only [GS.set, GS.get, List.lookup_cons, Nat.reduceBEq] <;> rfl) hg (q_load_leaf Try.underlying3)) ?_ | refine sg rfl (fun hg => strip 48 (by simp only [GS.set, GS.get, List.lookup_cons, Nat.reduceBEq] <;> rfl) hg (q_loadp_leaf Try.underlying3)) ?_
      refine sg rfl (fun hg => strip 49 (by simp only [GS.set, GS.get, List.lookup_cons, Nat.reduceBEq] <;> rfl) hg (q_lss)) ?_
      refine sv rfl (y_or) ?_
      refine sv rfl (y_move) ?_
      first | refine sg rfl (fun hg => q_fieldAddr Try.underlying48 rfl sz3) ?_ | refine sg rfl (fun hg => q_fieldp_leaf Try.underlying48 rfl sz3) ?_
      first | refine sg rfl (fun hg => strip 53 (by simp only [GS.set, GS.get, List.lookup_cons, Nat.reduceBEq] <;> rfl) hg (q_load_leaf Try.underlying3)) ?_ | refine sg rfl (fun hg => strip 53 (by simp only [GS.set, GS.get, List.lookup_cons, Nat.reduceBEq] <;> rfl) hg (q_loadp_leaf Try.underlying3)) ?_
      refine sg rfl (fun hg => strip 54 (by simp only [GS.set, GS.get, List.lookup_cons, Nat.reduceBEq] <;> rfl) hg (q_gtr)) ?_
      refine sv rfl (y_or) ?_
      refine sv rfl (y_move) ?_
      refine sg rfl (fun hg => q_move) ?_
      refine g_callg (xs := []) rfl (fun hg => Pf.data c54) ?_
      refine sg rfl (fun hg => strip 59 (by simp only [GS.set, GS.get, List.lookup_cons, Nat.reduceBEq] <;> rfl) hg (q_len Try.underlying79)) ?_
      refine sg rfl (fun hg => strip 60 (by simp only [GS.set, GS.get, List.lookup_cons, Nat.reduceBEq] <;> rfl) hg (strip 58 (by simp only [GS.set, GS.get, List.lookup_cons, Nat.reduceBEq] <;> rfl) hg (q_gtr))) ?_
      refine sv rfl (y_or) ?_
      refine sv rfl (y_move) ?_
      refine sg rfl (fun hg => q_move) ?_
      refine sg rfl (fun hg => strip 64 (by simp only [GS.set, GS.get, List.lookup_cons, Nat.reduceBEq] <;> rfl) hg (q_gtr)) ?_
      first | refine sg rfl (fun hg => q_fieldAddr Try.underlying48 rfl sz3) ?_ | refine sg rfl (fun hg => q_fieldp_leaf Try.underlying48 rfl sz3) ?_
      first | refine sg rfl (fun hg => strip 66 (by simp only [GS.set, GS.get, List.lookup_cons, Nat.reduceBEq] <;> rfl) hg (q_load_leaf Try.underlying3)) ?_ | refine sg rfl (fun hg => strip 66 (by simp only [GS.set, GS.get, List.lookup_cons, Nat.reduceBEq] <;> rfl) hg (q_loadp_leaf Try.underlying3)) ?_
      refine sg rfl (fun hg => strip 67 (by simp only [GS.set, GS.get, List.lookup_cons, Nat.reduceBEq] <;> rfl) hg (q_eql)) ?_
      refine sg rfl (fun hg => strip 68 (by simp only [GS.set, GS.get, List.lookup_cons, Nat.reduceBEq] <;> rfl) hg (strip 65 (by simp only [GS.set, GS.get, List.lookup_cons, Nat.reduceBEq] <;> rfl) hg (q_boolne Try.underlying4))) ?_
      refine sv rfl (y_or) ?_
      refine GOps_nil ?_
      refine thn_normal ?_
      refine g_cond (fun hb2 => ?_) (fun hb2 => ?_)
      ·
        have hB : badD x = true := by rw [Bool.or_assoc (x / 1099511627776 != 0), nk] at hb2; exact hb2
        have hnone := dec_bad hz3 hB
        refine G_seq ?_
        refine g_keep [0, 2, 3, 4, 5, 6, 7, 8] ?_
        refine g_region ?_
        refine sv rfl (y_assign) ?_
        refine sv rfl (y_assign) ?_
        refine GOps_nil ?_
        refine thn_normal ?_
        refine G_ret ?_
        refine thn_ret ?_
        refine blk_ret ?_
        refine thn_ret ?_
        refine hr0 _ ?_
        refine blk_ret ?_
        refine thn_ret ?_
        refine find2 (by simp) ?_
        exact ⟨by simp only [decR, if_neg hshort]; rw [hnone], rfl⟩
      ·
        have hB : badD x = false := by rw [Bool.or_assoc (x / 1099511627776 != 0), nk] at hb2; exact hb2
        obtain ⟨hkn, ht17⟩ := badD_in hB
        have hfa := field_at hkn
        have hf2 := hfa.2.1
        refine G_skip ?_
        refine thn_normal ?_
        refine G_seq ?_
        refine G_seq ?_
        refine g_keep [0, 2, 3, 4, 5, 6, 7, 8] ?_
        refine g_region ?_
        refine sv rfl (y_move) ?_
        refine sv rfl (y_gtr) ?_
        refine GOps_nil ?_
        refine thn_normal ?_
        refine g_cond (fun hb3 => ?_) (fun hb3 => ?_)
        ·
          have htp : x / 4294967296 % 256 > 0 := by simpa using hb3
          have hx2 := text_at htp ht17
          refine g_region ?_
          refine g_call (xs := []) rfl (c54) ?_
          refine sv rfl (y_move) ?_
          refine sv rfl (y_sub) ?_
          refine sv rfl (y_indexAddr Try.underlying79 sz9) ?_
          first | refine sv rfl (y_load_leaf Try.underlying9) ?_ | refine sv rfl (y_loadp_leaf Try.underlying9) ?_
          first | refine sv rfl (y_fieldAddr Try.underlying48 rfl sz9) ?_ | refine sv rfl (y_fieldp_leaf Try.underlying48 rfl sz9) ?_
          first | refine sa rfl (d_store sz9) ?_ | refine sa rfl (d_store_take sz9) ?_
          refine GOps_nil ?_
          refine thn_normal ?_
          refine G_seq ?_
          refine G_seq ?_
          refine g_region ?_
          first | refine sv rfl (y_fieldAddr Try.underlying48 rfl sz3) ?_ | refine sv rfl (y_fieldp_leaf Try.underlying48 rfl sz3) ?_
          first | refine sv rfl (y_load_leaf Try.underlying3) ?_ | refine sv rfl (y_loadp_leaf Try.underlying3) ?_
          refine g_call (xs := [.tmp 80]) rfl (c56 (x / 1 % 256) hkn) ?_
          refine g_call (xs := [.tmp 81, .const (.int .u8 (78))]) rfl (c55 (fieldB (x / 1 % 256)) 78 (by omega)) ?_
          refine GOps_nil ?_
          refine thn_normal ?_
          refine g_cond (fun hb4 => ?_) (fun hb4 => ?_)
          ·
            have hwd : wideI (x / 1 % 256) = true := by rw [← hfa.2.2]; exact hb4
            refine G_seq ?_
            refine g_keep [0, 2, 3, 4, 5, 6, 7, 8] ?_
            refine g_region ?_
            refine sv rfl (y_move) ?_
            refine sv rfl (y_add) ?_
            refine sv rfl (y_assign) ?_
            refine GOps_nil ?_
            refine thn_normal ?_
            refine G_seq ?_
            refine G_seq ?_
            refine g_region ?_
            refine sv rfl (y_move) ?_
            refine sv rfl (y_move) ?_
            refine sv rfl (y_len Try.underlying45) ?_
            refine sv rfl (y_eql) ?_
            refine GOps_nil ?_
            refine thn_normal ?_
            refine g_cond (fun hb5 => ?_) (fun hb5 => ?_)
            ·
              have hz1e : z + 1 = ws.length := by
                have : ((z + 1 : Nat) : Int) = ((u64s ws).length : Nat) := by simpa using hb5
                omega
              have hnone : decS ws = none := by
                rw [hz1e, List.drop_length] at hz3
                exact dec_short hz3 hB hwd
              refine G_seq ?_
              refine g_region ?_
              refine sv rfl (y_assign) ?_
              refine sv rfl (y_assign) ?_
              refine GOps_nil ?_
              refine thn_normal ?_
              refine G_ret ?_
              refine thn_ret ?_
              refine thn_ret ?_
              refine blk_ret ?_
              refine thn_ret ?_
              refine hr0 _ ?_
              refine blk_ret ?_
              refine thn_ret ?_
              refine find2 (by simp) ?_
              exact ⟨by simp only [decR, if_neg hshort]; rw [hnone], rfl⟩
            ·
              have hlt2 : z + 1 < ws.length := by
                have : ¬ ((z + 1 : Nat) : Int) = ((u64s ws).length : Nat) := by simpa using hb5
                omega
              obtain ⟨n, hne⟩ : ∃ n, ws[z + 1] = n := ⟨_, rfl⟩
              have hx3 : (u64s ws)[z + 1]? = some (.int .u64 n) := by rw [u64s, List.getElem?_map, List.getElem?_eq_getElem hlt2, hne]; rfl
              have hdr2 : ws.drop (z + 1) = n :: ws.drop (z + 1 + 1) := by rw [List.drop_eq_getElem_cons hlt2, hne]
              have hz4 : decS ws = (decS (x :: n :: ws.drop (z + 1 + 1))).map (acc ++ ·) := by rw [← hdr2]; exact hz3
              refine G_skip ?_
              refine thn_normal ?_
              refine g_region ?_
              refine sv rfl (y_move) ?_
              refine sv rfl (y_move) ?_
              refine sv rfl (y_indexAddr Try.underlying45 sz61) ?_
              first | refine sv rfl (y_load_leaf Try.underlying61) ?_ | refine sv rfl (y_loadp_leaf Try.underlying61) ?_
              refine sv rfl (y_convert Try.underlying61 Try.underlying3) ?_
              first | refine sv rfl (y_fieldAddr Try.underlying48 rfl sz3) ?_ | refine sv rfl (y_fieldp_leaf Try.underlying48 rfl sz3) ?_
              first | refine sa rfl (d_store sz3) ?_ | refine sa rfl (d_store_take sz3) ?_
              refine GOps_nil ?_
              refine thn_normal ?_
              refine g_keep [0, 2, 3, 4, 5, 6, 7, 8] ?_
              refine g_region ?_
              first | refine sv rfl (y_move_take) ?_ | refine sv rfl (y_move) ?_
              first | refine sv rfl (y_load_agg sz48 Try.underlying48 rfl) ?_ | refine sv rfl (y_loadp_agg sz48 Try.underlying48 rfl) ?_
              refine sv rfl (y_buildSlice (xs := [.tmp 96]) Try.underlying44 inf48) ?_
              refine sv rfl (y_append Try.underlying44 inf48) ?_
              first | refine sv rfl (y_assign_take) ?_ | refine sv rfl (y_assign) ?_
              refine GOps_nil ?_
              refine blk_normal ?_
              refine thn_normal ?_
              refine g_region ?_
              refine sv rfl (y_move) ?_
              refine sv rfl (y_add) ?_
              refine sv rfl (y_assign) ?_
              refine GOps_nil ?_
              refine hn0 _ (z + 1 + 1, l ++ [(decW x (IntKind.i64.wrap n)).d]) ⟨by show z + 1 + 1 ≤ ws.length; omega, acc ++ [decW x (IntKind.i64.wrap n)], by show _ = _; rw [hl]; simp, by show _ ≤ z + 1 + 1; rw [List.length_append]; simp; omega, dec_two hz4 hB hwd⟩ (by show ws.length - (z + 1 + 1) < ws.length - z; omega) le_of
          ·
            have hwd : wideI (x / 1 % 256) = false := by rw [← hfa.2.2]; exact hb4
            refine G_skip ?_
            refine thn_normal ?_
            refine g_keep [0, 2, 3, 4, 5, 6, 7, 8] ?_
            refine g_region ?_
            first | refine sv rfl (y_move_take) ?_ | refine sv rfl (y_move) ?_
            first | refine sv rfl (y_load_agg sz48 Try.underlying48 rfl) ?_ | refine sv rfl (y_loadp_agg sz48 Try.underlying48 rfl) ?_
            refine sv rfl (y_buildSlice (xs := [.tmp 96]) Try.underlying44 inf48) ?_
            refine sv rfl (y_append Try.underlying44 inf48) ?_
            first | refine sv rfl (y_assign_take) ?_ | refine sv rfl (y_assign) ?_
            refine GOps_nil ?_
            refine blk_normal ?_
            refine thn_normal ?_
            refine g_region ?_
            refine sv rfl (y_move) ?_
            refine sv rfl (y_add) ?_
            refine sv rfl (y_assign) ?_
            refine GOps_nil ?_
            refine hn0 _ (z + 1, l ++ [(decW x 0).d]) ⟨by show z + 1 ≤ ws.length; omega, acc ++ [decW x 0], by show _ = _; rw [hl]; simp, by show _ ≤ z + 1; rw [List.length_append]; simp; omega, dec_one hz3 hB hwd⟩ (by show ws.length - (z + 1) < ws.length - z; omega) le_of
        ·
          have htp : ¬ x / 4294967296 % 256 > 0 := by simpa using hb3
          have htx := text_no htp
          refine G_skip ?_
          refine thn_normal ?_
          refine G_seq ?_
          refine G_seq ?_
          refine g_region ?_
          first | refine sv rfl (y_fieldAddr Try.underlying48 rfl sz3) ?_ | refine sv rfl (y_fieldp_leaf Try.underlying48 rfl sz3) ?_
          first | refine sv rfl (y_load_leaf Try.underlying3) ?_ | refine sv rfl (y_loadp_leaf Try.underlying3) ?_
          refine g_call (xs := [.tmp 80]) rfl (c56 (x / 1 % 256) hkn) ?_
          refine g_call (xs := [.tmp 81, .const (.int .u8 (78))]) rfl (c55 (fieldB (x / 1 % 256)) 78 (by omega)) ?_
          refine GOps_nil ?_
          refine thn_normal ?_
          refine g_cond (fun hb6 => ?_) (fun hb6 => ?_)
          ·
            have hwd : wideI (x / 1 % 256) = true := by rw [← hfa.2.2]; exact hb6
            refine G_seq ?_
            refine g_region ?_
            refine sv rfl (y_move) ?_
            refine sv rfl (y_add) ?_
            refine sv rfl (y_assign) ?_
            refine GOps_nil ?_
            refine thn_normal ?_
            refine G_seq ?_
            refine G_seq ?_
            refine g_region ?_
            refine sv rfl (y_move) ?_
            refine sv rfl (y_move) ?_
            refine sv rfl (y_len Try.underlying45) ?_
            refine sv rfl (y_eql) ?_
            refine GOps_nil ?_
            refine thn_normal ?_
            refine g_cond (fun hb7 => ?_) (fun hb7 => ?_)
            ·
              have hz1e : z + 1 = ws.length := by
                have : ((z + 1 : Nat) : Int) = ((u64s ws).length : Nat) := by simpa using hb7
                omega
              have hnone : decS ws = none := by
                rw [hz1e, List.drop_length] at hz3
                exact dec_short hz3 hB hwd
              refine G_seq ?_
              refine g_keep [0, 2, 3, 4, 5, 6, 7, 8] ?_
              refine g_region ?_
              refine sv rfl (y_assign) ?_
              refine sv rfl (y_assign) ?_
              refine GOps_nil ?_
              refine thn_normal ?_
              refine G_ret ?_
              refine thn_ret ?_
              refine thn_ret ?_
              refine blk_ret ?_
              refine thn_ret ?_
              refine hr0 _ ?_
              refine blk_ret ?_
              refine thn_ret ?_
              refine find2 (by simp) ?_
              exact ⟨by simp only [decR, if_neg hshort]; rw [hnone], rfl⟩
            ·
              have hlt2 : z + 1 < ws.length := by
                have : ¬ ((z + 1 : Nat) : Int) = ((u64s ws).length : Nat) := by simpa using hb7
                omega
              obtain ⟨n, hne⟩ : ∃ n, ws[z + 1] = n := ⟨_, rfl⟩
              have hx3 : (u64s ws)[z + 1]? = some (.int .u64 n) := by rw [u64s, List.getElem?_map, List.getElem?_eq_getElem hlt2, hne]; rfl
              have hdr2 : ws.drop (z + 1) = n :: ws.drop (z + 1 + 1) := by rw [List.drop_eq_getElem_cons hlt2, hne]
              have hz4 : decS ws = (decS (x :: n :: ws.drop (z + 1 + 1))).map (acc ++ ·) := by rw [← hdr2]; exact hz3
              refine G_skip ?_
              refine thn_normal ?_
              refine g_keep [0, 2, 3, 4, 5, 6, 7, 8] ?_
              refine g_region ?_
              refine sv rfl (y_move) ?_
              refine sv rfl (y_move) ?_
              refine sv rfl (y_indexAddr Try.underlying45 sz61) ?_
              first | refine sv rfl (y_load_leaf Try.underlying61) ?_ | refine sv rfl (y_loadp_leaf Try.underlying61) ?_
              refine sv rfl (y_convert Try.underlying61 Try.underlying3) ?_
              first | refine sv rfl (y_fieldAddr Try.underlying48 rfl sz3) ?_ | refine sv rfl (y_fieldp_leaf Try.underlying48 rfl sz3) ?_
              first | refine sa rfl (d_store sz3) ?_ | refine sa rfl (d_store_take sz3) ?_
              refine GOps_nil ?_
              refine thn_normal ?_
              refine g_region ?_
              first | refine sv rfl (y_move_take) ?_ | refine sv rfl (y_move) ?_
              first | refine sv rfl (y_load_agg sz48 Try.underlying48 rfl) ?_ | refine sv rfl (y_loadp_agg sz48 Try.underlying48 rfl) ?_
              refine sv rfl (y_buildSlice (xs := [.tmp 96]) Try.underlying44 inf48) ?_
              refine sv rfl (y_append Try.underlying44 inf48) ?_
              first | refine sv rfl (y_assign_take) ?_ | refine sv rfl (y_assign) ?_
              refine GOps_nil ?_
              refine blk_normal ?_
              refine thn_normal ?_
              refine g_keep [0, 2, 3, 4, 5, 6, 7, 8] ?_
              refine g_region ?_
              refine sv rfl (y_move) ?_
              refine sv rfl (y_add) ?_
              refine sv rfl (y_assign) ?_
              refine GOps_nil ?_
              refine hn0 _ (z + 1 + 1, l ++ [.agg [.int .i64 (x / 1 % 256), .int .i64 (x / 256 % 256), .int .i64 (x / 65536 % 256), .int .i64 (x / 16777216 % 256), .int .i64 (IntKind.i64.wrap n), .str ⟨#[]⟩]]) ⟨by show z + 1 + 1 ≤ ws.length; omega, acc ++ [decW x (IntKind.i64.wrap n)], by show _ = _; rw [hl]; simp [WIns.d, decW, htx], by show _ ≤ z + 1 + 1; rw [List.length_append]; simp; omega, dec_two hz4 hB hwd⟩ (by show ws.length - (z + 1 + 1) < ws.length - z; omega) le_of
          ·
            have hwd : wideI (x / 1 % 256) = false := by rw [← hfa.2.2]; exact hb6
            refine G_skip ?_
            refine thn_normal ?_
            refine g_region ?_
            first | refine sv rfl (y_move_take) ?_ | refine sv rfl (y_move) ?_
            first | refine sv rfl (y_load_agg sz48 Try.underlying48 rfl) ?_ | refine sv rfl (y_loadp_agg sz48 Try.underlying48 rfl) ?_
            refine sv rfl (y_buildSlice (xs := [.tmp 96]) Try.underlying44 inf48) ?_
            refine sv rfl (y_append Try.underlying44 inf48) ?_
            first | refine sv rfl (y_assign_take) ?_ | refine sv rfl (y_assign) ?_
            refine GOps_nil ?_
            refine blk_normal ?_
            refine thn_normal ?_
            refine g_region ?_
            refine sv rfl (y_move) ?_
            refine sv rfl (y_add) ?_
            refine sv rfl (y_assign) ?_
            refine GOps_nil ?_
            refine hn0 _ (z + 1, l ++ [.agg [.int .i64 (x / 1 % 256), .int .i64 (x / 256 % 256), .int .i64 (x / 65536 % 256), .int .i64 (x / 16777216 % 256), .int .i64 0, .str ⟨#[]⟩]]) ⟨by show z + 1 ≤ ws.length; omega, acc ++ [decW x 0], by show _ = _; rw [hl]; simp [WIns.d, decW, htx], by show _ ≤ z + 1; rw [List.length_append]; simp; omega, dec_one hz3 hB hwd⟩ (by show ws.length - (z + 1) < ws.length - z; omega) le_of
    ·
      have hge : z = ws.length := by
        have : ¬ (z : Int) < ((u64s ws).length : Nat) := by simpa using hb1
        omega
      refine G_exit ?_
      refine thn_exit ?_
      refine he0 _ _ ?_
      refine blk_exit ?_
      refine thn_normal ?_
      refine G_seq ?_
      refine g_region ?_
      refine sv rfl (y_move) ?_
      first | refine sv rfl (y_assign_take) ?_ | refine sv rfl (y_assign) ?_
      refine sv rfl (y_assign) ?_
      refine GOps_nil ?_
      refine thn_normal ?_
      refine G_ret ?_
      have hsome : decS ws = some acc := by
        rw [hz2, hge, List.drop_length]; simp [decS]
      refine find2 (by simp) ?_
      exact ⟨by simp only [decR, if_neg hshort]; rw [hsome, hl]; rfl, rfl⟩

end Go.Proofs.Ytphfdmagkgpgfaa
