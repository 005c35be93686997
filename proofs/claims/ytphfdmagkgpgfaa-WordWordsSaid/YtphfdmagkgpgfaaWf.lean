/- Contracts of functions. Conditions: none. -/
import Derived.Test.YtphfdmagkgpgfaaWe
namespace Go.Proofs.Ytphfdmagkgpgfaa
open Go Go.Proofs.Ytphfdmagkgpgfaa.E

/-- An instruction. -/
structure WIns where
  (op a b c n : Int)
  text : ByteArray
def WIns.d (i : WIns) : D := .agg [.int .i64 i.op, .int .i64 i.a, .int .i64 i.b, .int .i64 i.c, .int .i64 i.n, .str i.text]
def insD (xs : List WIns) : D := .sl (xs.map WIns.d)
def u64w (a : Int) : Int := IntKind.u64.wrap a
def uor (a b : Int) : Int := IntKind.u64.wrap ((BitVec.ofInt 64 a ||| BitVec.ofInt 64 b).toNat)
def ushl (n : Nat) (a : Int) : Int := IntKind.u64.wrap (a * 2 ^ n)
def knownI (x : Int) : Bool := decide (x ≥ 1) && decide (x ≤ 11)
def smallI (x : Int) : Bool := decide (x ≥ 0) && decide (x ≤ 255)
/-- The number of an instruction's text. -/
def textN (i : WIns) : Int := if i.op = 5 then IntKind.i64.wrap (idxI (isStr i.text) textsD + 1) else 0
def wideI (op : Int) : Bool := decide (op ≠ 2) && decide (op ≠ 5) && decide (op ≠ 8) && decide (op ≠ 11)
def badA (i : WIns) : Bool := ((!(knownI i.op) || !(smallI i.a)) || !(smallI i.b)) || !(smallI i.c)
def badT (i : WIns) (t : Int) (sec : Bool) : Bool := ((i.op == 5 && t == 0) || (i.op != 5 && !(decide (i.text = ⟨#[]⟩)))) || (!sec && i.n != 0)
def badB (i : WIns) : Bool := badT i (textN i) (wideI i.op)
def wordT (i : WIns) (t : Int) : Int := uor (uor (uor (uor (u64w i.op) (ushl 8 (u64w i.a))) (ushl 16 (u64w i.b))) (ushl 24 (u64w i.c))) (ushl 32 (u64w t))
def wordI (i : WIns) : Int := wordT i (textN i)
def encI (i : WIns) : Option (List Int) := if badA i then none else if badB i then none else some (wordI i :: if wideI i.op then [u64w i.n] else [])
def encS : List WIns → Option (List Int)
  | [] => some []
  | i :: r => (encI i).bind fun x => (encS r).map (x ++ ·)
def encR (xs : List WIns) : PV :=
  if (xs.length : Int) > 160000 then .tup [.d (.sl []), .d (.int .i64 5)] else
  match encS xs with
  | none => .tup [.d (.sl []), .d (.int .i64 290)]
  | some ws => .tup [.d (.sl (u64s ws)), .d (.int .i64 0)]
theorem encS_drop {xs : List WIns} {z : Nat} {x : WIns} {acc : List Int} (h : encS xs = (encS (xs.drop z)).map (acc ++ ·)) (hx : xs[z]? = some x) :
    encS xs = (encI x).bind fun y => (encS (xs.drop (z + 1))).map ((acc ++ y) ++ ·) := by
  have hlt : z < xs.length := (List.getElem?_eq_some_iff.1 hx).1
  have hd : xs.drop z = x :: xs.drop (z + 1) := by
    rw [List.drop_eq_getElem_cons hlt]
    congr 1
    exact (List.getElem?_eq_some_iff.1 hx).2
  rw [h, hd]
  simp only [encS]
  cases encI x with
  | none => rfl
  | some y => simp only [Option.bind_some, Option.map_map]; congr 1; funext q; simp
theorem forms_at {op : Int} (h : knownI op = true) : ∃ v s, (formsD.drop (op.toNat * 2)).take 2 = [.str v, .str s] ∧ decide (idxB s (78 : Int).toNat.toUInt8 ≥ 0) = wideI op := by
  simp only [knownI, Bool.and_eq_true, decide_eq_true_eq] at h
  obtain ⟨h1, h2⟩ := h
  obtain rfl | rfl | rfl | rfl | rfl | rfl | rfl | rfl | rfl | rfl | rfl : op = 1 ∨ op = 2 ∨ op = 3 ∨ op = 4 ∨ op = 5 ∨ op = 6 ∨ op = 7 ∨ op = 8 ∨ op = 9 ∨ op = 10 ∨ op = 11 := by omega
  all_goals exact ⟨_, _, rfl, by decide +kernel⟩
theorem textsB_len : textsB.length ≤ 1000000 := by decide

set_option maxHeartbeats 2000000 in
theorem c27 (xs : List WIns) (hlim : xs.length ≤ 1000000000) : Pf Try.prog 27 [insD xs] (encR xs) := by
  refine pf_body (rvs := [.tmp 2, .tmp 3]) [(0, .d (.sl (xs.map WIns.d)))] Try.func27 Try.ntmps27 Try.results27 (fun S0 O0 w0 m0 hm0 => ?_)
  refine G_seq ?_
  refine g_region ?_
  refine sv rfl (y_assign) ?_
  refine sv rfl (y_assign) ?_
  refine GOps_nil ?_
  refine thn_normal ?_
  refine G_seq ?_
  refine G_seq ?_
  refine g_region ?_
  refine sv rfl (y_move) ?_
  refine sv rfl (y_len Try.underlying53) ?_
  refine sv rfl (y_gtr) ?_
  refine GOps_nil ?_
  refine thn_normal ?_
  refine g_cond (fun hb0 => ?_) (fun hb0 => ?_)
  ·
    have hlong : (xs.length : Int) > 160000 := by simpa using hb0
    refine G_seq ?_
    refine g_region ?_
    refine sv rfl (y_assign) ?_
    refine sv rfl (y_assign) ?_
    refine GOps_nil ?_
    refine thn_normal ?_
    refine G_ret ?_
    refine thn_ret ?_
    refine find2 (by simp) ?_
    exact ⟨by simp only [encR, if_pos hlong], rfl⟩
  ·
    have hshort : ¬ ((xs.length : Int) > 160000) := by simpa using hb0
    have hsh : xs.length ≤ 160000 := by omega
    refine G_skip ?_
    refine thn_normal ?_
    refine G_seq ?_
    refine g_region ?_
    refine g_call (xs := []) rfl (c47) ?_
    refine g_call (xs := []) rfl (c48) ?_
    refine sv rfl (y_alloc zr85) ?_
    first | refine sa rfl (d_store sz85) ?_ | refine sa rfl (d_store_take sz85) ?_
    first | refine sv rfl (y_assign_take) ?_ | refine sv rfl (y_assign) ?_
    refine GOps_nil ?_
    refine thn_normal ?_
    refine G_seq ?_
    refine g_region ?_
    refine g_freeze 0 [] (.agg formsD) (cs := formsD.map .d) (ds := formsD) rfl ?_ (hds := rfl)
    refine sv rfl (y_assign) ?_
    refine GOps_nil ?_
    refine thn_normal ?_
    refine G_seq ?_
    refine G_seq ?_
    refine g_region ?_
    refine sv rfl (y_move) ?_
    refine sv rfl (y_len Try.underlying53) ?_
    refine sv rfl (y_move) ?_
    refine GOps_nil ?_
    refine thn_normal ?_
    refine G_block ?_
    refine g_loop (α := Nat × List D) (fun z => ⟨[(18, .d (.int .i64 (z.1 : Nat))), (17, .d (.int .i64 ((xs.map WIns.d).length : Nat))), (16, .d (.sl (xs.map WIns.d))), (6, .osl 1 z.2), (5, .d (.sl textsD)), (4, .d (.ptr (.agg formsD))), (0, .d (.sl (xs.map WIns.d)))], []⟩) (fun z => xs.length - z.1) (fun z => z.1 ≤ xs.length ∧ ∃ acc : List Int, z.2 = u64s acc ∧ acc.length ≤ 2 * z.1 ∧ encS xs = (encS (xs.drop z.1)).map (acc ++ ·)) (0, []) ⟨Nat.zero_le _, [], rfl, by simp, by simp⟩ (fun z hz Q' hn0 he0 hr0 => ?_) (le_of)
    obtain ⟨z, l⟩ := z
    obtain ⟨hz1, acc, hl, hal, hz2⟩ := hz
    replace hz1 : z ≤ xs.length := hz1
    replace hl : l = u64s acc := hl
    replace hal : acc.length ≤ 2 * z := hal
    replace hz2 : encS xs = (encS (xs.drop z)).map (acc ++ ·) := hz2
    have hll : l.length = acc.length := by rw [hl, u64s, List.length_map]
    refine G_seq ?_
    refine g_region ?_
    refine sv rfl (y_lss) ?_
    refine GOps_nil ?_
    refine thn_normal ?_
    refine G_seq ?_
    refine g_cond (fun hb1 => ?_) (fun hb1 => ?_)
    ·
      have hlt : z < xs.length := by simpa using hb1
      obtain ⟨x, hxe⟩ : ∃ x, xs[z] = x := ⟨_, rfl⟩
      have hxs : xs[z]? = some x := by rw [List.getElem?_eq_getElem hlt, hxe]
      have hx : (xs.map WIns.d)[z]? = some (.agg [.int .i64 x.op, .int .i64 x.a, .int .i64 x.b, .int .i64 x.c, .int .i64 x.n, .str x.text]) := by rw [List.getElem?_map, hxs]; rfl
      have hstep := encS_drop hz2 hxs
      refine G_skip ?_
      refine thn_normal ?_
      refine G_seq ?_
      refine G_block ?_
      refine G_seq ?_
      refine g_region ?_
      refine sv rfl (y_indexAddr Try.underlying53 sz63) ?_
      refine sv rfl (y_loadp_agg (ds := [.int .i64 x.op, .int .i64 x.a, .int .i64 x.b, .int .i64 x.c, .int .i64 x.n, .str x.text]) sz63 Try.underlying63 rfl) ?_
      refine sv rfl (y_alloc zr63) ?_
      first | refine sa rfl (d_store sz63) ?_ | refine sa rfl (d_store_take sz63) ?_
      refine GOps_nil ?_
      refine thn_normal ?_
      refine G_seq ?_
      refine G_seq ?_
      refine g_region ?_
      first | refine sv rfl (y_fieldAddr Try.underlying63 rfl sz3) ?_ | refine sv rfl (y_fieldp_leaf Try.underlying63 rfl sz3) ?_
      first | refine sv rfl (y_load_leaf Try.underlying3) ?_ | refine sv rfl (y_loadp_leaf Try.underlying3) ?_
      refine g_call (xs := [.tmp 23]) rfl (c49 x.op) ?_
      refine sv rfl (y_not) ?_
      refine sv rfl (y_move) ?_
      first | refine sg rfl (fun hg => q_fieldAddr Try.underlying63 rfl sz3) ?_ | refine sg rfl (fun hg => q_fieldp_leaf Try.underlying63 rfl sz3) ?_
      first | refine sg rfl (fun hg => strip 27 (by simp only [GS.set, GS.get, List.lookup_cons, Nat.reduceBEq] <;> rfl) hg (q_load_leaf Try.underlying3)) ?_ | refine sg rfl (fun hg => strip 27 (by simp only [GS.set, GS.get, List.lookup_cons, Nat.reduceBEq] <;> rfl) hg (q_loadp_leaf Try.underlying3)) ?_
      refine g_callg (xs := [.tmp 28]) rfl (fun hg => c50 x.a) ?_
      refine sg rfl (fun hg => strip 29 (by simp only [GS.set, GS.get, List.lookup_cons, Nat.reduceBEq] <;> rfl) hg (q_not)) ?_
      refine sv rfl (y_or) ?_
      refine sv rfl (y_move) ?_
      first | refine sg rfl (fun hg => q_fieldAddr Try.underlying63 rfl sz3) ?_ | refine sg rfl (fun hg => q_fieldp_leaf Try.underlying63 rfl sz3) ?_
      first | refine sg rfl (fun hg => strip 33 (by simp only [GS.set, GS.get, List.lookup_cons, Nat.reduceBEq] <;> rfl) hg (q_load_leaf Try.underlying3)) ?_ | refine sg rfl (fun hg => strip 33 (by simp only [GS.set, GS.get, List.lookup_cons, Nat.reduceBEq] <;> rfl) hg (q_loadp_leaf Try.underlying3)) ?_
      refine g_callg (xs := [.tmp 34]) rfl (fun hg => c50 x.b) ?_
      refine sg rfl (fun hg => strip 35 (by simp only [GS.set, GS.get, List.lookup_cons, Nat.reduceBEq] <;> rfl) hg (q_not)) ?_
      refine sv rfl (y_or) ?_
      refine sv rfl (y_move) ?_
      first | refine sg rfl (fun hg => q_fieldAddr Try.underlying63 rfl sz3) ?_ | refine sg rfl (fun hg => q_fieldp_leaf Try.underlying63 rfl sz3) ?_
      first | refine sg rfl (fun hg => strip 39 (by simp only [GS.set, GS.get, List.lookup_cons, Nat.reduceBEq] <;> rfl) hg (q_load_leaf Try.underlying3)) ?_ | refine sg rfl (fun hg => strip 39 (by simp only [GS.set, GS.get, List.lookup_cons, Nat.reduceBEq] <;> rfl) hg (q_loadp_leaf Try.underlying3)) ?_
      refine g_callg (xs := [.tmp 40]) rfl (fun hg => c50 x.c) ?_
      refine sg rfl (fun hg => strip 41 (by simp only [GS.set, GS.get, List.lookup_cons, Nat.reduceBEq] <;> rfl) hg (q_not)) ?_
      refine sv rfl (y_or) ?_
      refine GOps_nil ?_
      refine thn_normal ?_
      refine g_cond (fun hb2 => ?_) (fun hb2 => ?_)
      ·
        have hnone : encS xs = none := by
          rw [hstep]
          have hA : badA x = true := hb2
          simp only [encI, hA]; rfl
        refine G_seq ?_
        refine g_keep [0, 2, 3, 4, 5, 6, 8, 9, 10, 16, 17, 18] ?_
        refine g_region ?_
        refine sv rfl (y_assign) ?_
        refine sv rfl (y_assign) ?_
        refine GOps_nil ?_
        refine thn_normal ?_
        refine G_ret ?_
        refine thn_ret ?_
        refine blk_ret ?_
        refine thn_ret ?_
        refine hr0 _ ?_
        refine blk_ret ?_
        refine thn_ret ?_
        refine find2 (by simp) ?_
        exact ⟨by simp only [encR, if_neg hshort]; rw [hnone], rfl⟩
      ·
        have hA : badA x = false := hb2
        have hkn : knownI x.op = true := by
          cases hk : knownI x.op with
          | true => rfl
          | false => simp [badA, hk] at hA
        obtain ⟨fv, fs, hform, hwide⟩ := forms_at hkn
        have hop1 : x.op ≥ 1 ∧ x.op ≤ 11 := by simpa [knownI] using hkn
        refine G_skip ?_
        refine thn_normal ?_
        refine G_seq ?_
        refine g_keep [0, 2, 3, 4, 5, 6, 8, 9, 10, 16, 17, 18] ?_
        refine g_region ?_
        refine sv rfl (y_assign) ?_
        refine GOps_nil ?_
        refine thn_normal ?_
        refine G_seq ?_
        refine G_seq ?_
        refine g_region ?_
        first | refine sv rfl (y_fieldAddr Try.underlying63 rfl sz3) ?_ | refine sv rfl (y_fieldp_leaf Try.underlying63 rfl sz3) ?_
        first | refine sv rfl (y_load_leaf Try.underlying3) ?_ | refine sv rfl (y_loadp_leaf Try.underlying3) ?_
        refine sv rfl (y_eql) ?_
        refine GOps_nil ?_
        refine thn_normal ?_
        refine g_cond (fun hb3 => ?_) (fun hb3 => ?_)
        ·
          have h5 : x.op = 5 := by simpa using hb3
          have htx : textN x = IntKind.i64.wrap (idxI (isStr x.text) textsD + 1) := by rw [textN, if_pos h5]
          refine g_region ?_
          refine sv rfl (y_move) ?_
          first | refine sv rfl (y_fieldAddr Try.underlying63 rfl sz9) ?_ | refine sv rfl (y_fieldp_leaf Try.underlying63 rfl sz9) ?_
          first | refine sv rfl (y_load_leaf Try.underlying9) ?_ | refine sv rfl (y_loadp_leaf Try.underlying9) ?_
          refine g_call (xs := [.tmp 47, .tmp 49]) rfl (c51 textsB x.text textsB_len) ?_
          refine sv rfl (y_add) ?_
          refine sv rfl (y_assign) ?_
          refine GOps_nil ?_
          refine thn_normal ?_
          refine G_seq ?_
          refine g_region ?_
          first | refine sv rfl (y_fieldAddr Try.underlying63 rfl sz3) ?_ | refine sv rfl (y_fieldp_leaf Try.underlying63 rfl sz3) ?_
          first | refine sv rfl (y_load_leaf Try.underlying3) ?_ | refine sv rfl (y_loadp_leaf Try.underlying3) ?_
          refine sv rfl (Yld_pure rfl (of_decide_eq_true rfl) (q_indexArrP Try.underlying85 sz84 (by omega) hform)) ?_
          refine sv rfl (y_loadp_agg (ds := [.str fv, .str fs]) sz84 Try.underlying84 rfl) ?_
          refine g_call (xs := [.tmp 55, .const (.int .u8 (78))]) rfl (c52 fv fs 78) ?_
          refine sv rfl (y_assign) ?_
          refine GOps_nil ?_
          refine thn_normal ?_
          refine G_seq ?_
          refine G_seq ?_
          refine g_keep [0, 2, 3, 4, 5, 6, 8, 9, 10, 16, 17, 18] ?_
          refine g_region ?_
          first | refine sv rfl (y_fieldAddr Try.underlying63 rfl sz3) ?_ | refine sv rfl (y_fieldp_leaf Try.underlying63 rfl sz3) ?_
          first | refine sv rfl (y_load_leaf Try.underlying3) ?_ | refine sv rfl (y_loadp_leaf Try.underlying3) ?_
          refine sv rfl (y_eql) ?_
          refine sv rfl (y_move) ?_
          refine sg rfl (fun hg => q_move) ?_
          refine sg rfl (fun hg => strip 61 (by simp only [GS.set, GS.get, List.lookup_cons, Nat.reduceBEq] <;> rfl) hg (q_eql)) ?_
          refine sv rfl (y_and) ?_
          refine sv rfl (y_move) ?_
          first | refine sg rfl (fun hg => q_fieldAddr Try.underlying63 rfl sz3) ?_ | refine sg rfl (fun hg => q_fieldp_leaf Try.underlying63 rfl sz3) ?_
          first | refine sg rfl (fun hg => strip 65 (by simp only [GS.set, GS.get, List.lookup_cons, Nat.reduceBEq] <;> rfl) hg (q_load_leaf Try.underlying3)) ?_ | refine sg rfl (fun hg => strip 65 (by simp only [GS.set, GS.get, List.lookup_cons, Nat.reduceBEq] <;> rfl) hg (q_loadp_leaf Try.underlying3)) ?_
          refine sg rfl (fun hg => strip 66 (by simp only [GS.set, GS.get, List.lookup_cons, Nat.reduceBEq] <;> rfl) hg (q_neq)) ?_
          refine sg rfl (fun hg => strip 67 (by simp only [GS.set, GS.get, List.lookup_cons, Nat.reduceBEq] <;> rfl) hg (q_move)) ?_
          first | refine sg rfl (fun hg => q_fieldAddr Try.underlying63 rfl sz9) ?_ | refine sg rfl (fun hg => q_fieldp_leaf Try.underlying63 rfl sz9) ?_
          first | refine sg rfl (fun hg => strip 69 (by simp only [GS.set, GS.get, List.lookup_cons, Nat.reduceBEq] <;> rfl) hg (q_load_leaf Try.underlying9)) ?_ | refine sg rfl (fun hg => strip 69 (by simp only [GS.set, GS.get, List.lookup_cons, Nat.reduceBEq] <;> rfl) hg (q_loadp_leaf Try.underlying9)) ?_
          refine sg rfl (fun hg => strip 70 (by simp only [GS.set, GS.get, List.lookup_cons, Nat.reduceBEq] <;> rfl) hg (q_strne)) ?_
          refine sg rfl (fun hg => strip 68 (by simp only [GS.set, GS.get, List.lookup_cons, Nat.reduceBEq] <;> rfl) hg (q_and)) ?_
          refine sv rfl (y_or) ?_
          refine sv rfl (y_move) ?_
          refine sg rfl (fun hg => q_move) ?_
          refine sg rfl (fun hg => strip 75 (by simp only [GS.set, GS.get, List.lookup_cons, Nat.reduceBEq] <;> rfl) hg (q_not)) ?_
          refine sg rfl (fun hg => strip 76 (by simp only [GS.set, GS.get, List.lookup_cons, Nat.reduceBEq] <;> rfl) hg (q_move)) ?_
          first | refine sg rfl (fun hg => q_fieldAddr Try.underlying63 rfl sz3) ?_ | refine sg rfl (fun hg => q_fieldp_leaf Try.underlying63 rfl sz3) ?_
          first | refine sg rfl (fun hg => strip 78 (by simp only [GS.set, GS.get, List.lookup_cons, Nat.reduceBEq] <;> rfl) hg (q_load_leaf Try.underlying3)) ?_ | refine sg rfl (fun hg => strip 78 (by simp only [GS.set, GS.get, List.lookup_cons, Nat.reduceBEq] <;> rfl) hg (q_loadp_leaf Try.underlying3)) ?_
          refine sg rfl (fun hg => strip 79 (by simp only [GS.set, GS.get, List.lookup_cons, Nat.reduceBEq] <;> rfl) hg (q_neq)) ?_
          refine sg rfl (fun hg => strip 77 (by simp only [GS.set, GS.get, List.lookup_cons, Nat.reduceBEq] <;> rfl) hg (q_and)) ?_
          refine sv rfl (y_or) ?_
          refine GOps_nil ?_
          refine thn_normal ?_
          refine g_cond (fun hb4 => ?_) (fun hb4 => ?_)
          ·
            have hB : badB x = true := by unfold badB; rw [htx, ← hwide]; exact hb4
            have hnone : encS xs = none := by rw [hstep]; simp only [encI, hA, hB]; rfl
            refine G_seq ?_
            refine g_keep [0, 2, 3, 4, 5, 6, 8, 9, 10, 16, 17, 18] ?_
            refine g_region ?_
            refine sv rfl (y_assign) ?_
            refine sv rfl (y_assign) ?_
            refine GOps_nil ?_
            refine thn_normal ?_
            refine G_ret ?_
            refine thn_ret ?_
            refine blk_ret ?_
            refine thn_ret ?_
            refine hr0 _ ?_
            refine blk_ret ?_
            refine thn_ret ?_
            refine find2 (by simp) ?_
            exact ⟨by simp only [encR, if_neg hshort]; rw [hnone], rfl⟩
          ·
            have hB : badB x = false := by unfold badB; rw [htx, ← hwide]; exact hb4
            refine G_skip ?_
            refine thn_normal ?_
            refine G_seq ?_
            refine g_keep [0, 2, 3, 4, 5, 6, 8, 9, 10, 16, 17, 18] ?_
            refine g_region ?_
            first | refine sv rfl (y_move_take) ?_ | refine sv rfl (y_move) ?_
            first | refine sv rfl (y_fieldAddr Try.underlying63 rfl sz3) ?_ | refine sv rfl (y_fieldp_leaf Try.underlying63 rfl sz3) ?_
            first | refine sv rfl (y_load_leaf Try.underlying3) ?_ | refine sv rfl (y_loadp_leaf Try.underlying3) ?_
            refine sv rfl (y_convert Try.underlying3 Try.underlying61) ?_
            first | refine sv rfl (y_fieldAddr Try.underlying63 rfl sz3) ?_ | refine sv rfl (y_fieldp_leaf Try.underlying63 rfl sz3) ?_
            first | refine sv rfl (y_load_leaf Try.underlying3) ?_ | refine sv rfl (y_loadp_leaf Try.underlying3) ?_
            refine sv rfl (y_convert Try.underlying3 Try.underlying61) ?_
            refine sv rfl (y_shift (show (0 : Int) ≤ 8 by decide) (show _ = ushl 8 _ from rfl)) ?_
            refine sv rfl (y_bits (show _ = pure (Value.int .u64 (uor _ _)) from rfl)) ?_
            first | refine sv rfl (y_fieldAddr Try.underlying63 rfl sz3) ?_ | refine sv rfl (y_fieldp_leaf Try.underlying63 rfl sz3) ?_
            first | refine sv rfl (y_load_leaf Try.underlying3) ?_ | refine sv rfl (y_loadp_leaf Try.underlying3) ?_
            refine sv rfl (y_convert Try.underlying3 Try.underlying61) ?_
            refine sv rfl (y_shift (show (0 : Int) ≤ 16 by decide) (show _ = ushl 16 _ from rfl)) ?_
            refine sv rfl (y_bits (show _ = pure (Value.int .u64 (uor _ _)) from rfl)) ?_
            first | refine sv rfl (y_fieldAddr Try.underlying63 rfl sz3) ?_ | refine sv rfl (y_fieldp_leaf Try.underlying63 rfl sz3) ?_
            first | refine sv rfl (y_load_leaf Try.underlying3) ?_ | refine sv rfl (y_loadp_leaf Try.underlying3) ?_
            refine sv rfl (y_convert Try.underlying3 Try.underlying61) ?_
            refine sv rfl (y_shift (show (0 : Int) ≤ 24 by decide) (show _ = ushl 24 _ from rfl)) ?_
            refine sv rfl (y_bits (show _ = pure (Value.int .u64 (uor _ _)) from rfl)) ?_
            refine sv rfl (y_move) ?_
            refine sv rfl (y_convert Try.underlying3 Try.underlying61) ?_
            refine sv rfl (y_shift (show (0 : Int) ≤ 32 by decide) (show _ = ushl 32 _ from rfl)) ?_
            refine sv rfl (y_bits (show _ = pure (Value.int .u64 (uor _ _)) from rfl)) ?_
            refine sv rfl (y_buildSlice (xs := [.tmp 105]) Try.underlying45 inf61) ?_
            refine sv rfl (y_append Try.underlying45 inf61) ?_
            first | refine sv rfl (y_assign_take) ?_ | refine sv rfl (y_assign) ?_
            refine GOps_nil ?_
            refine thn_normal ?_
            refine G_seq ?_
            refine g_keep [0, 2, 3, 4, 5, 6, 8, 9, 10, 16, 17, 18] ?_
            refine g_region ?_
            refine sv rfl (y_move) ?_
            refine GOps_nil ?_
            refine thn_normal ?_
            refine g_cond (fun hb5 => ?_) (fun hb5 => ?_)
            ·
              have hwd : wideI x.op = true := by rw [← hwide]; exact hb5
              refine g_region ?_
              first | refine sv rfl (y_move_take) ?_ | refine sv rfl (y_move) ?_
              first | refine sv rfl (y_fieldAddr Try.underlying63 rfl sz3) ?_ | refine sv rfl (y_fieldp_leaf Try.underlying63 rfl sz3) ?_
              first | refine sv rfl (y_load_leaf Try.underlying3) ?_ | refine sv rfl (y_loadp_leaf Try.underlying3) ?_
              refine sv rfl (y_convert Try.underlying3 Try.underlying61) ?_
              refine sv rfl (y_buildSlice (xs := [.tmp 112]) Try.underlying45 inf61) ?_
              refine sv rfl (y_append Try.underlying45 inf61) ?_
              first | refine sv rfl (y_assign_take) ?_ | refine sv rfl (y_assign) ?_
              refine GOps_nil ?_
              refine blk_normal ?_
              refine thn_normal ?_
              refine g_region ?_
              refine sv rfl (y_add) ?_
              refine sv rfl (y_move) ?_
              refine GOps_nil ?_
              refine hn0 _ (z + 1, l ++ [.int .u64 (wordT x (IntKind.i64.wrap (idxI (isStr x.text) textsD + 1)))] ++ [.int .u64 (u64w x.n)]) ⟨by show z + 1 ≤ xs.length; omega, acc ++ [wordI x, u64w x.n], by show l ++ [.int .u64 (wordT x (IntKind.i64.wrap (idxI (isStr x.text) textsD + 1)))] ++ [.int .u64 (u64w x.n)] = _; rw [hl]; simp [u64s, wordI, htx], by show _ ≤ 2 * (z + 1); rw [List.length_append]; simp; omega, by rw [hstep]; simp only [encI, hA, hB, hwd]; rfl⟩ (by show xs.length - (z + 1) < xs.length - z; omega) le_of
            ·
              have hwd : wideI x.op = false := by rw [← hwide]; exact hb5
              refine G_skip ?_
              refine blk_normal ?_
              refine thn_normal ?_
              refine g_region ?_
              refine sv rfl (y_add) ?_
              refine sv rfl (y_move) ?_
              refine GOps_nil ?_
              refine hn0 _ (z + 1, l ++ [.int .u64 (wordT x (IntKind.i64.wrap (idxI (isStr x.text) textsD + 1)))]) ⟨by show z + 1 ≤ xs.length; omega, acc ++ [wordI x], by show l ++ [.int .u64 (wordT x (IntKind.i64.wrap (idxI (isStr x.text) textsD + 1)))] = _; rw [hl]; simp [u64s, wordI, htx], by show _ ≤ 2 * (z + 1); rw [List.length_append]; simp; omega, by rw [hstep]; simp only [encI, hA, hB, hwd]; rfl⟩ (by show xs.length - (z + 1) < xs.length - z; omega) le_of
        ·
          have h5 : x.op ≠ 5 := by simpa using hb3
          have htx : textN x = 0 := by rw [textN, if_neg h5]
          refine G_skip ?_
          refine thn_normal ?_
          refine G_seq ?_
          refine g_region ?_
          first | refine sv rfl (y_fieldAddr Try.underlying63 rfl sz3) ?_ | refine sv rfl (y_fieldp_leaf Try.underlying63 rfl sz3) ?_
          first | refine sv rfl (y_load_leaf Try.underlying3) ?_ | refine sv rfl (y_loadp_leaf Try.underlying3) ?_
          refine sv rfl (Yld_pure rfl (of_decide_eq_true rfl) (q_indexArrP Try.underlying85 sz84 (by omega) hform)) ?_
          refine sv rfl (y_loadp_agg (ds := [.str fv, .str fs]) sz84 Try.underlying84 rfl) ?_
          refine g_call (xs := [.tmp 55, .const (.int .u8 (78))]) rfl (c52 fv fs 78) ?_
          refine sv rfl (y_assign) ?_
          refine GOps_nil ?_
          refine thn_normal ?_
          refine G_seq ?_
          refine G_seq ?_
          refine g_region ?_
          first | refine sv rfl (y_fieldAddr Try.underlying63 rfl sz3) ?_ | refine sv rfl (y_fieldp_leaf Try.underlying63 rfl sz3) ?_
          first | refine sv rfl (y_load_leaf Try.underlying3) ?_ | refine sv rfl (y_loadp_leaf Try.underlying3) ?_
          refine sv rfl (y_eql) ?_
          refine sv rfl (y_move) ?_
          refine sg rfl (fun hg => q_move) ?_
          refine sg rfl (fun hg => strip 61 (by simp only [GS.set, GS.get, List.lookup_cons, Nat.reduceBEq] <;> rfl) hg (q_eql)) ?_
          refine sv rfl (y_and) ?_
          refine sv rfl (y_move) ?_
          first | refine sg rfl (fun hg => q_fieldAddr Try.underlying63 rfl sz3) ?_ | refine sg rfl (fun hg => q_fieldp_leaf Try.underlying63 rfl sz3) ?_
          first | refine sg rfl (fun hg => strip 65 (by simp only [GS.set, GS.get, List.lookup_cons, Nat.reduceBEq] <;> rfl) hg (q_load_leaf Try.underlying3)) ?_ | refine sg rfl (fun hg => strip 65 (by simp only [GS.set, GS.get, List.lookup_cons, Nat.reduceBEq] <;> rfl) hg (q_loadp_leaf Try.underlying3)) ?_
          refine sg rfl (fun hg => strip 66 (by simp only [GS.set, GS.get, List.lookup_cons, Nat.reduceBEq] <;> rfl) hg (q_neq)) ?_
          refine sg rfl (fun hg => strip 67 (by simp only [GS.set, GS.get, List.lookup_cons, Nat.reduceBEq] <;> rfl) hg (q_move)) ?_
          first | refine sg rfl (fun hg => q_fieldAddr Try.underlying63 rfl sz9) ?_ | refine sg rfl (fun hg => q_fieldp_leaf Try.underlying63 rfl sz9) ?_
          first | refine sg rfl (fun hg => strip 69 (by simp only [GS.set, GS.get, List.lookup_cons, Nat.reduceBEq] <;> rfl) hg (q_load_leaf Try.underlying9)) ?_ | refine sg rfl (fun hg => strip 69 (by simp only [GS.set, GS.get, List.lookup_cons, Nat.reduceBEq] <;> rfl) hg (q_loadp_leaf Try.underlying9)) ?_
          refine sg rfl (fun hg => strip 70 (by simp only [GS.set, GS.get, List.lookup_cons, Nat.reduceBEq] <;> rfl) hg (q_strne)) ?_
          refine sg rfl (fun hg => strip 68 (by simp only [GS.set, GS.get, List.lookup_cons, Nat.reduceBEq] <;> rfl) hg (q_and)) ?_
          refine sv rfl (y_or) ?_
          refine sv rfl (y_move) ?_
          refine sg rfl (fun hg => q_move) ?_
          refine sg rfl (fun hg => strip 75 (by simp only [GS.set, GS.get, List.lookup_cons, Nat.reduceBEq] <;> rfl) hg (q_not)) ?_
          refine sg rfl (fun hg => strip 76 (by simp only [GS.set, GS.get, List.lookup_cons, Nat.reduceBEq] <;> rfl) hg (q_move)) ?_
          first | refine sg rfl (fun hg => q_fieldAddr Try.underlying63 rfl sz3) ?_ | refine sg rfl (fun hg => q_fieldp_leaf Try.underlying63 rfl sz3) ?_
          first | refine sg rfl (fun hg => strip 78 (by simp only [GS.set, GS.get, List.lookup_cons, Nat.reduceBEq] <;> rfl) hg (q_load_leaf Try.underlying3)) ?_ | refine sg rfl (fun hg => strip 78 (by simp only [GS.set, GS.get, List.lookup_cons, Nat.reduceBEq] <;> rfl) hg (q_loadp_leaf Try.underlying3)) ?_
          refine sg rfl (fun hg => strip 79 (by simp only [GS.set, GS.get, List.lookup_cons, Nat.reduceBEq] <;> rfl) hg (q_neq)) ?_
          refine sg rfl (fun hg => strip 77 (by simp only [GS.set, GS.get, List.lookup_cons, Nat.reduceBEq] <;> rfl) hg (q_and)) ?_
          refine sv rfl (y_or) ?_
          refine GOps_nil ?_
          refine thn_normal ?_
          refine g_cond (fun hb6 => ?_) (fun hb6 => ?_)
          ·
            have hB : badB x = true := by unfold badB; rw [htx, ← hwide]; exact hb6
            have hnone : encS xs = none := by rw [hstep]; simp only [encI, hA, hB]; rfl
            refine G_seq ?_
            refine g_keep [0, 2, 3, 4, 5, 6, 8, 9, 10, 16, 17, 18] ?_
            refine g_region ?_
            refine sv rfl (y_assign) ?_
            refine sv rfl (y_assign) ?_
            refine GOps_nil ?_
            refine thn_normal ?_
            refine G_ret ?_
            refine thn_ret ?_
            refine blk_ret ?_
            refine thn_ret ?_
            refine hr0 _ ?_
            refine blk_ret ?_
            refine thn_ret ?_
            refine find2 (by simp) ?_
            exact ⟨by simp only [encR, if_neg hshort]; rw [hnone], rfl⟩
          ·
            have hB : badB x = false := by unfold badB; rw [htx, ← hwide]; exact hb6
            refine G_skip ?_
            refine thn_normal ?_
            refine G_seq ?_
            refine g_keep [0, 2, 3, 4, 5, 6, 8, 9, 10, 16, 17, 18] ?_
            refine g_region ?_
            first | refine sv rfl (y_move_take) ?_ | refine sv rfl (y_move) ?_
            first | refine sv rfl (y_fieldAddr Try.underlying63 rfl sz3) ?_ | refine sv rfl (y_fieldp_leaf Try.underlying63 rfl sz3) ?_
            first | refine sv rfl (y_load_leaf Try.underlying3) ?_ | refine sv rfl (y_loadp_leaf Try.underlying3) ?_
            refine sv rfl (y_convert Try.underlying3 Try.underlying61) ?_
            first | refine sv rfl (y_fieldAddr Try.underlying63 rfl sz3) ?_ | refine sv rfl (y_fieldp_leaf Try.underlying63 rfl sz3) ?_
            first | refine sv rfl (y_load_leaf Try.underlying3) ?_ | refine sv rfl (y_loadp_leaf Try.underlying3) ?_
            refine sv rfl (y_convert Try.underlying3 Try.underlying61) ?_
            refine sv rfl (y_shift (show (0 : Int) ≤ 8 by decide) (show _ = ushl 8 _ from rfl)) ?_
            refine sv rfl (y_bits (show _ = pure (Value.int .u64 (uor _ _)) from rfl)) ?_
            first | refine sv rfl (y_fieldAddr Try.underlying63 rfl sz3) ?_ | refine sv rfl (y_fieldp_leaf Try.underlying63 rfl sz3) ?_
            first | refine sv rfl (y_load_leaf Try.underlying3) ?_ | refine sv rfl (y_loadp_leaf Try.underlying3) ?_
            refine sv rfl (y_convert Try.underlying3 Try.underlying61) ?_
            refine sv rfl (y_shift (show (0 : Int) ≤ 16 by decide) (show _ = ushl 16 _ from rfl)) ?_
            refine sv rfl (y_bits (show _ = pure (Value.int .u64 (uor _ _)) from rfl)) ?_
            first | refine sv rfl (y_fieldAddr Try.underlying63 rfl sz3) ?_ | refine sv rfl (y_fieldp_leaf Try.underlying63 rfl sz3) ?_
            first | refine sv rfl (y_load_leaf Try.underlying3) ?_ | refine sv rfl (y_loadp_leaf Try.underlying3) ?_
            refine sv rfl (y_convert Try.underlying3 Try.underlying61) ?_
            refine sv rfl (y_shift (show (0 : Int) ≤ 24 by decide) (show _ = ushl 24 _ from rfl)) ?_
            refine sv rfl (y_bits (show _ = pure (Value.int .u64 (uor _ _)) from rfl)) ?_
            refine sv rfl (y_move) ?_
            refine sv rfl (y_convert Try.underlying3 Try.underlying61) ?_
            refine sv rfl (y_shift (show (0 : Int) ≤ 32 by decide) (show _ = ushl 32 _ from rfl)) ?_
            refine sv rfl (y_bits (show _ = pure (Value.int .u64 (uor _ _)) from rfl)) ?_
            refine sv rfl (y_buildSlice (xs := [.tmp 105]) Try.underlying45 inf61) ?_
            refine sv rfl (y_append Try.underlying45 inf61) ?_
            first | refine sv rfl (y_assign_take) ?_ | refine sv rfl (y_assign) ?_
            refine GOps_nil ?_
            refine thn_normal ?_
            refine G_seq ?_
            refine g_keep [0, 2, 3, 4, 5, 6, 8, 9, 10, 16, 17, 18] ?_
            refine g_region ?_
            refine sv rfl (y_move) ?_
            refine GOps_nil ?_
            refine thn_normal ?_
            refine g_cond (fun hb7 => ?_) (fun hb7 => ?_)
            ·
              have hwd : wideI x.op = true := by rw [← hwide]; exact hb7
              refine g_region ?_
              first | refine sv rfl (y_move_take) ?_ | refine sv rfl (y_move) ?_
              first | refine sv rfl (y_fieldAddr Try.underlying63 rfl sz3) ?_ | refine sv rfl (y_fieldp_leaf Try.underlying63 rfl sz3) ?_
              first | refine sv rfl (y_load_leaf Try.underlying3) ?_ | refine sv rfl (y_loadp_leaf Try.underlying3) ?_
              refine sv rfl (y_convert Try.underlying3 Try.underlying61) ?_
              refine sv rfl (y_buildSlice (xs := [.tmp 112]) Try.underlying45 inf61) ?_
              refine sv rfl (y_append Try.underlying45 inf61) ?_
              first | refine sv rfl (y_assign_take) ?_ | refine sv rfl (y_assign) ?_
              refine GOps_nil ?_
              refine blk_normal ?_
              refine thn_normal ?_
              refine g_region ?_
              refine sv rfl (y_add) ?_
              refine sv rfl (y_move) ?_
              refine GOps_nil ?_
              refine hn0 _ (z + 1, l ++ [.int .u64 (wordT x (0))] ++ [.int .u64 (u64w x.n)]) ⟨by show z + 1 ≤ xs.length; omega, acc ++ [wordI x, u64w x.n], by show l ++ [.int .u64 (wordT x (0))] ++ [.int .u64 (u64w x.n)] = _; rw [hl]; simp [u64s, wordI, htx], by show _ ≤ 2 * (z + 1); rw [List.length_append]; simp; omega, by rw [hstep]; simp only [encI, hA, hB, hwd]; rfl⟩ (by show xs.length - (z + 1) < xs.length - z; omega) le_of
            ·
              have hwd : wideI x.op = false := by rw [← hwide]; exact hb7
              refine G_skip ?_
              refine blk_normal ?_
              refine thn_normal ?_
              refine g_region ?_
              refine sv rfl (y_add) ?_
              refine sv rfl (y_move) ?_
              refine GOps_nil ?_
              refine hn0 _ (z + 1, l ++ [.int .u64 (wordT x (0))]) ⟨by show z + 1 ≤ xs.length; omega, acc ++ [wordI x], by show l ++ [.int .u64 (wordT x (0))] = _; rw [hl]; simp [u64s, wordI, htx], by show _ ≤ 2 * (z + 1); rw [List.length_append]; simp; omega, by rw [hstep]; simp only [encI, hA, hB, hwd]; rfl⟩ (by show xs.length - (z + 1) < xs.length - z; omega) le_of
    ·
      have hge : z = xs.length := by
        have : ¬ (z : Int) < (xs.map WIns.d).length := by simpa using hb1
        simp at this
        omega
      refine G_exit ?_
      refine thn_exit ?_
      refine he0 _ _ ?_
      refine blk_exit ?_
      refine thn_normal ?_
      refine G_seq ?_
      refine g_region ?_
      refine sv rfl (y_move) ?_
      first | refine sv rfl (y_assign_take) ?_ | refine sv rfl (y_assign) ?_
      refine sv rfl (y_assign) ?_
      refine GOps_nil ?_
      refine thn_normal ?_
      refine G_ret ?_
      have hsome : encS xs = some acc := by
        rw [hz2, hge, List.drop_length]; simp [encS]
      refine find2 (by simp) ?_
      exact ⟨by simp only [encR, if_neg hshort]; rw [hsome, hl], rfl⟩

end Go.Proofs.Ytphfdmagkgpgfaa
