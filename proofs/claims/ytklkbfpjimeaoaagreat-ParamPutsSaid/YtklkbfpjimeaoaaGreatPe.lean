/- Contracts of functions. Conditions: none. -/
import Derived.Test.YtklkbfpjimeaoaaGreatPd
namespace Go.Proofs.YtklkbfpjimeaoaaGreat
open Go Go.Proofs.YtklkbfpjimeaoaaGreat.E
def qmB : ByteArray := ⟨#[63]⟩
/-- A node is a Type. -/
def typedB : Tr → Bool
  | .mk op name num ks => ((op == 30 && num == 0) && (ks.length : Int) == 0) && nameB (trimB name qmB)
/-- The operations of sync and atomic variables. -/
def opTab : List (ByteArray × ByteArray × ByteArray × Int) :=
  [(⟨#[114, 101, 97, 100, 70, 69]⟩, ⟨#[115, 121, 110, 99]⟩, ⟨#[105, 110, 116]⟩, 0),
   (⟨#[114, 101, 97, 100, 70, 70]⟩, ⟨#[115, 121, 110, 99]⟩, ⟨#[105, 110, 116]⟩, 0),
   (⟨#[114, 101, 97, 100, 88, 88]⟩, ⟨#[115, 121, 110, 99]⟩, ⟨#[105, 110, 116]⟩, 0),
   (⟨#[105, 115, 70, 117, 108, 108]⟩, ⟨#[115, 121, 110, 99]⟩, ⟨#[98, 111, 111, 108]⟩, 0),
   (⟨#[114, 101, 115, 101, 116]⟩, ⟨#[115, 121, 110, 99]⟩, ⟨#[118, 111, 105, 100]⟩, 0),
   (⟨#[119, 114, 105, 116, 101, 69, 70]⟩, ⟨#[115, 121, 110, 99]⟩, ⟨#[118, 111, 105, 100]⟩, 1),
   (⟨#[119, 114, 105, 116, 101, 70, 70]⟩, ⟨#[115, 121, 110, 99]⟩, ⟨#[118, 111, 105, 100]⟩, 1),
   (⟨#[119, 114, 105, 116, 101, 88, 70]⟩, ⟨#[115, 121, 110, 99]⟩, ⟨#[118, 111, 105, 100]⟩, 1),
   (⟨#[114, 101, 97, 100]⟩, ⟨#[97, 116, 111, 109, 105, 99]⟩, ⟨#[105, 110, 116]⟩, 0),
   (⟨#[119, 114, 105, 116, 101]⟩, ⟨#[97, 116, 111, 109, 105, 99]⟩, ⟨#[118, 111, 105, 100]⟩, 1),
   (⟨#[97, 100, 100]⟩, ⟨#[97, 116, 111, 109, 105, 99]⟩, ⟨#[118, 111, 105, 100]⟩, 1),
   (⟨#[102, 101, 116, 99, 104, 65, 100, 100]⟩, ⟨#[97, 116, 111, 109, 105, 99]⟩, ⟨#[105, 110, 116]⟩, 1),
   (⟨#[101, 120, 99, 104, 97, 110, 103, 101]⟩, ⟨#[97, 116, 111, 109, 105, 99]⟩, ⟨#[105, 110, 116]⟩, 1),
   (⟨#[99, 111, 109, 112, 97, 114, 101, 65, 110, 100, 83, 119, 97, 112]⟩, ⟨#[97, 116, 111, 109, 105, 99]⟩, ⟨#[98, 111, 111, 108]⟩, 2)]
def opVal (x : ByteArray × ByteArray × Int) : D := .agg [.str x.1, .str x.2.1, .int .i64 x.2.2]
def opsM : List (D × D) := opTab.map fun x => (.str x.1, opVal x.2)
def opGet (name : ByteArray) : ByteArray × ByteArray × Int := match opTab.find? (fun x => decide (x.1 = name)) with | some x => x.2 | none => (⟨#[]⟩, ⟨#[]⟩, 0)
def opHas (name : ByteArray) : Bool := opTab.any fun x => decide (x.1 = name)
theorem mget_ops (name : ByteArray) : mget opsM (.str name) (.agg [.str ⟨#[]⟩, .str ⟨#[]⟩, .int .i64 0]) = opVal (opGet name) := by
  have h : (opTab.find? ((fun x : D × D => x.1.keyEq (.str name)) ∘ fun x => (D.str x.1, opVal x.2))) = opTab.find? (fun x => decide (x.1 = name)) := rfl
  unfold mget opGet opsM
  rw [List.find?_map, h]
  cases opTab.find? (fun x => decide (x.1 = name)) <;> rfl
theorem mhas_ops (name : ByteArray) : mhas opsM (.str name) = opHas name := by
  unfold mhas opHas opsM
  rw [List.any_map]; rfl
theorem opGet_takes (name : ByteArray) : 0 ≤ (opGet name).2.2 ∧ (opGet name).2.2 ≤ 2 := by
  have hall : (opTab.all fun x => decide (0 ≤ x.2.2.2) && decide (x.2.2.2 ≤ 2)) = true := by decide
  unfold opGet
  cases h : opTab.find? (fun x => decide (x.1 = name)) with
  | none => exact ⟨by decide, by decide⟩
  | some x =>
    have := List.all_eq_true.1 hall x (List.mem_of_find?_eq_some h)
    rw [Bool.and_eq_true, decide_eq_true_eq, decide_eq_true_eq] at this
    exact this
theorem c168 (t : Tr) : Pf Tryz.prog 168 [t.d] (.d (.bool (typedB t))) := by
  obtain ⟨op, name, num, ks⟩ := t
  rw [Tr.d_mk]
  try simp only [Tr.op_mk, Tr.nm_mk, Tr.nu_mk, Tr.kids_mk]
  refine pf_body (rvs := [.tmp 2]) [(0, .d (.agg [.int .i64 op, .str name, .int .i64 num, .sl (ks.map Tr.d)]))] Tryz.func168 Tryz.ntmps168 Tryz.results168 (fun S0 O0 w0 m0 hm0 => ?_)
  refine G_seq ?_
  refine g_region ?_
  refine sv rfl (y_box) ?_
  refine g_freeze 0 [] (.agg [.int .i64 op, .str name, .int .i64 num, .sl (ks.map Tr.d)]) rfl ?_
  refine sv rfl (y_assign) ?_
  refine GOps_nil ?_
  refine thn_normal ?_
  refine G_seq ?_
  refine g_region ?_
  first | refine sv rfl (y_fieldAt 0 Tryz.underlying27 rfl sz3) ?_ | refine sv rfl (y_fieldAddr Tryz.underlying27 rfl sz3) ?_ | refine sv rfl (y_fieldp_leaf Tryz.underlying27 rfl sz3) ?_
  first | refine sv rfl (y_load_leaf Tryz.underlying3) ?_ | refine sv rfl (y_loadp_leaf Tryz.underlying3) ?_
  refine sv rfl (y_eql) ?_
  refine sv rfl (y_move) ?_
  first | refine sg rfl (fun hg => q_fieldAddr Tryz.underlying27 rfl sz3) ?_ | refine sg rfl (fun hg => q_fieldp_leaf Tryz.underlying27 rfl sz3) ?_
  first | refine sg rfl (fun hg => strip 7 (by simp only [GS.set, GS.get, List.lookup_cons, Nat.reduceBEq] <;> rfl) hg (q_load_leaf Tryz.underlying3)) ?_ | refine sg rfl (fun hg => strip 7 (by simp only [GS.set, GS.get, List.lookup_cons, Nat.reduceBEq] <;> rfl) hg (q_loadp_leaf Tryz.underlying3)) ?_
  refine sg rfl (fun hg => strip 8 (by simp only [GS.set, GS.get, List.lookup_cons, Nat.reduceBEq] <;> rfl) hg (q_eql)) ?_
  refine sv rfl (y_and) ?_
  refine sv rfl (y_move) ?_
  first | refine sg rfl (fun hg => q_fieldAddr Tryz.underlying27 rfl sz22) ?_ | refine sg rfl (fun hg => q_fieldp_leaf Tryz.underlying27 rfl sz22) ?_
  first | refine sg rfl (fun hg => strip 12 (by simp only [GS.set, GS.get, List.lookup_cons, Nat.reduceBEq] <;> rfl) hg (q_load_leaf Tryz.underlying22)) ?_ | refine sg rfl (fun hg => strip 12 (by simp only [GS.set, GS.get, List.lookup_cons, Nat.reduceBEq] <;> rfl) hg (q_loadp_leaf Tryz.underlying22)) ?_
  refine sg rfl (fun hg => strip 13 (by simp only [GS.set, GS.get, List.lookup_cons, Nat.reduceBEq] <;> rfl) hg (q_len Tryz.underlying22)) ?_
  refine sg rfl (fun hg => strip 14 (by simp only [GS.set, GS.get, List.lookup_cons, Nat.reduceBEq] <;> rfl) hg (q_eql)) ?_
  refine sv rfl (y_and) ?_
  refine sv rfl (y_move) ?_
  first | refine sg rfl (fun hg => q_fieldAddr Tryz.underlying27 rfl sz9) ?_ | refine sg rfl (fun hg => q_fieldp_leaf Tryz.underlying27 rfl sz9) ?_
  first | refine sg rfl (fun hg => strip 18 (by simp only [GS.set, GS.get, List.lookup_cons, Nat.reduceBEq] <;> rfl) hg (q_load_leaf Tryz.underlying9)) ?_ | refine sg rfl (fun hg => strip 18 (by simp only [GS.set, GS.get, List.lookup_cons, Nat.reduceBEq] <;> rfl) hg (q_loadp_leaf Tryz.underlying9)) ?_
  refine g_callg (xs := [.tmp 19, .const (.string ⟨#[63]⟩)]) rfl (fun hg => c235 name qmB) ?_
  refine g_callg (xs := [.tmp 20]) rfl (fun hg => c167 _) ?_
  refine sv rfl (y_and) ?_
  refine sv rfl (y_assign) ?_
  refine GOps_nil ?_
  refine thn_normal ?_
  refine G_ret ?_
  refine fin1 (by simp) ?_
  exact ⟨by rw [typedB]; simp, rfl⟩
set_option maxHeartbeats 4000000 in
theorem c224  : Pf Tryz.prog 224 [] (.d (.map opsM)) := by
  refine pf_body (rvs := [.tmp 0]) [] Tryz.func224 Tryz.ntmps224 Tryz.results224 (fun S0 O0 w0 m0 hm0 => ?_)
  refine G_seq ?_
  refine g_region ?_
  refine sv rfl (y_assign) ?_
  refine GOps_nil ?_
  refine thn_normal ?_
  refine G_seq ?_
  refine g_region ?_
  refine sv rfl y_makeMap ?_
  refine sv rfl (y_buildS pl231 zr231) ?_
  refine sa rfl (d_insert Tryz.underlying232 Tryz.underlying9) ?_
  refine sv rfl (y_buildS pl231 zr231) ?_
  refine sa rfl (d_insert Tryz.underlying232 Tryz.underlying9) ?_
  refine sv rfl (y_buildS pl231 zr231) ?_
  refine sa rfl (d_insert Tryz.underlying232 Tryz.underlying9) ?_
  refine sv rfl (y_buildS pl231 zr231) ?_
  refine sa rfl (d_insert Tryz.underlying232 Tryz.underlying9) ?_
  refine sv rfl (y_buildS pl231 zr231) ?_
  refine sa rfl (d_insert Tryz.underlying232 Tryz.underlying9) ?_
  refine sv rfl (y_buildS pl231 zr231) ?_
  refine sa rfl (d_insert Tryz.underlying232 Tryz.underlying9) ?_
  refine sv rfl (y_buildS pl231 zr231) ?_
  refine sa rfl (d_insert Tryz.underlying232 Tryz.underlying9) ?_
  refine sv rfl (y_buildS pl231 zr231) ?_
  refine sa rfl (d_insert Tryz.underlying232 Tryz.underlying9) ?_
  refine sv rfl (y_buildS pl231 zr231) ?_
  refine sa rfl (d_insert Tryz.underlying232 Tryz.underlying9) ?_
  refine sv rfl (y_buildS pl231 zr231) ?_
  refine sa rfl (d_insert Tryz.underlying232 Tryz.underlying9) ?_
  refine sv rfl (y_buildS pl231 zr231) ?_
  refine sa rfl (d_insert Tryz.underlying232 Tryz.underlying9) ?_
  refine sv rfl (y_buildS pl231 zr231) ?_
  refine sa rfl (d_insert Tryz.underlying232 Tryz.underlying9) ?_
  refine sv rfl (y_buildS pl231 zr231) ?_
  refine sa rfl (d_insert Tryz.underlying232 Tryz.underlying9) ?_
  refine sv rfl (y_buildS pl231 zr231) ?_
  refine sa rfl (d_insert Tryz.underlying232 Tryz.underlying9) ?_
  refine sv rfl (y_move) ?_
  refine sv rfl (y_assign) ?_
  refine g_freezeM 0 [] rfl ?_
  refine GOps_nil ?_
  refine thn_normal ?_
  refine G_ret ?_
  refine fin1 (by simp) ?_
  exact ⟨rfl, rfl⟩
def eee : ByteArray := ⟨#[101, 101, 101]⟩
def e1 : ByteArray := ⟨#[101]⟩
def bcB : ByteArray := ⟨#[98, 108, 111, 99, 107, 99, 121, 99, 108, 105, 99]⟩
def blB : ByteArray := ⟨#[98, 108, 111, 99, 107]⟩
def cyB : ByteArray := ⟨#[99, 121, 99, 108, 105, 99]⟩
def haB : ByteArray := ⟨#[104, 97, 115, 104, 101, 100]⟩
/-- Whether a node is right whose Name is told by no list, and whether it is such a node. -/
def otherB : Tr → Bool × Bool
  | .mk op name num ks =>
    if (op == 3) = true then (((num == 0 && (ks.length : Int) == 0) && decide ((name.size : Int) ≤ 200)) && plainTx name, true)
    else if (op == 4) = true then ((nameB name && num == 0) && (ks.length : Int) == 0, true)
    else if (op == 30) = true then (typedB (.mk op name num ks), true)
    else if (op == 50) = true then (varB (.mk op name num ks), true)
    else if (op == 13) = true then ((nameB name && num == 0) && everyB (fun op => isExprB op || op == 30) ks, true)
    else if (op == 15) = true then ((opHas name && num == 0) && kidsB ks (eee.extract 0 ((opGet name).2.2 + 1).toNat), true)
    else if (op == 11) = true then
      (if (decide (name = bcB)) = true then (num == 0 && kidsB ks ee) else (num == 0 && ((decide (name = blB) || decide (name = cyB)) || decide (name = haB))) && kidsB ks e1, true)
    else (false, false)
set_option maxHeartbeats 8000000 in
theorem c234 (t : Tr) (hok : t.Ok) : Pf Tryz.prog 234 [t.d] (.tup [.d (.bool (otherB t).1), .d (.bool (otherB t).2)]) := by
  obtain ⟨op, name, num, ks⟩ := t
  rw [Tr.d_mk]
  try simp only [Tr.op_mk, Tr.nm_mk, Tr.nu_mk, Tr.kids_mk]
  refine pf_body (rvs := [.tmp 2, .tmp 3]) [(0, .d (.agg [.int .i64 op, .str name, .int .i64 num, .sl (ks.map Tr.d)]))] Tryz.func234 Tryz.ntmps234 Tryz.results234 (fun S0 O0 w0 m0 hm0 => ?_)
  refine G_seq ?_
  refine g_region ?_
  refine sv rfl (y_box) ?_
  refine g_freeze 0 [] (.agg [.int .i64 op, .str name, .int .i64 num, .sl (ks.map Tr.d)]) rfl ?_
  refine sv rfl (y_assign) ?_
  refine sv rfl (y_assign) ?_
  refine GOps_nil ?_
  refine thn_normal ?_
  refine G_seq ?_
  refine G_seq ?_
  refine g_region ?_
  first | refine sv rfl (y_fieldAt 0 Tryz.underlying27 rfl sz3) ?_ | refine sv rfl (y_fieldAddr Tryz.underlying27 rfl sz3) ?_ | refine sv rfl (y_fieldp_leaf Tryz.underlying27 rfl sz3) ?_
  first | refine sv rfl (y_load_leaf Tryz.underlying3) ?_ | refine sv rfl (y_loadp_leaf Tryz.underlying3) ?_
  refine GOps_nil ?_
  refine thn_normal ?_
  refine G_block ?_
  refine G_seq ?_
  refine g_region ?_
  refine sv rfl (y_eql) ?_
  refine sv rfl (y_assign) ?_
  refine GOps_nil ?_
  refine thn_normal ?_
  refine g_cond (fun hb0 => ?_) (fun hb0 => ?_)
  ·
    refine G_seq ?_
    refine g_region ?_
    first | refine sv rfl (y_fieldAt 1 Tryz.underlying27 rfl sz9) ?_ | refine sv rfl (y_fieldAddr Tryz.underlying27 rfl sz9) ?_ | refine sv rfl (y_fieldp_leaf Tryz.underlying27 rfl sz9) ?_
    first | refine sv rfl (y_load_leaf Tryz.underlying9) ?_ | refine sv rfl (y_loadp_leaf Tryz.underlying9) ?_
    refine g_call (xs := [.tmp 12, .func 284]) rfl (c283 name 284 badR c284) ?_
    refine sv rfl (y_not) ?_
    refine sv rfl (y_assign) ?_
    refine GOps_nil ?_
    refine thn_normal ?_
    refine G_seq ?_
    refine g_keep [0, 1, 2, 3, 4, 5, 6, 8] ?_
    refine g_region ?_
    first | refine sv rfl (y_fieldAt 2 Tryz.underlying27 rfl sz3) ?_ | refine sv rfl (y_fieldAddr Tryz.underlying27 rfl sz3) ?_ | refine sv rfl (y_fieldp_leaf Tryz.underlying27 rfl sz3) ?_
    first | refine sv rfl (y_load_leaf Tryz.underlying3) ?_ | refine sv rfl (y_loadp_leaf Tryz.underlying3) ?_
    refine sv rfl (y_eql) ?_
    refine sv rfl (y_move) ?_
    first | refine sg rfl (fun hg => q_fieldAddr Tryz.underlying27 rfl sz22) ?_ | refine sg rfl (fun hg => q_fieldp_leaf Tryz.underlying27 rfl sz22) ?_
    first | refine sg rfl (fun hg => strip 19 (by simp only [GS.set, GS.get, List.lookup_cons, Nat.reduceBEq] <;> rfl) hg (q_load_leaf Tryz.underlying22)) ?_ | refine sg rfl (fun hg => strip 19 (by simp only [GS.set, GS.get, List.lookup_cons, Nat.reduceBEq] <;> rfl) hg (q_loadp_leaf Tryz.underlying22)) ?_
    refine sg rfl (fun hg => strip 20 (by simp only [GS.set, GS.get, List.lookup_cons, Nat.reduceBEq] <;> rfl) hg (q_len Tryz.underlying22)) ?_
    refine sg rfl (fun hg => strip 21 (by simp only [GS.set, GS.get, List.lookup_cons, Nat.reduceBEq] <;> rfl) hg (q_eql)) ?_
    refine sv rfl (y_and) ?_
    refine sv rfl (y_move) ?_
    first | refine sg rfl (fun hg => q_fieldAddr Tryz.underlying27 rfl sz9) ?_ | refine sg rfl (fun hg => q_fieldp_leaf Tryz.underlying27 rfl sz9) ?_
    first | refine sg rfl (fun hg => strip 25 (by simp only [GS.set, GS.get, List.lookup_cons, Nat.reduceBEq] <;> rfl) hg (q_load_leaf Tryz.underlying9)) ?_ | refine sg rfl (fun hg => strip 25 (by simp only [GS.set, GS.get, List.lookup_cons, Nat.reduceBEq] <;> rfl) hg (q_loadp_leaf Tryz.underlying9)) ?_
    refine sg rfl (fun hg => strip 26 (by simp only [GS.set, GS.get, List.lookup_cons, Nat.reduceBEq] <;> rfl) hg (q_lenstr Tryz.underlying9)) ?_
    refine sg rfl (fun hg => strip 27 (by simp only [GS.set, GS.get, List.lookup_cons, Nat.reduceBEq] <;> rfl) hg (q_leq)) ?_
    refine sv rfl (y_and) ?_
    refine sv rfl (y_move) ?_
    refine sg rfl (fun hg => q_move) ?_
    refine sv rfl (y_and) ?_
    refine sv rfl (y_assign) ?_
    refine sv rfl (y_assign) ?_
    refine GOps_nil ?_
    refine thn_normal ?_
    refine G_ret ?_
    refine blk_ret ?_
    refine thn_ret ?_
    refine find2 (by simp) ?_
    exact ⟨by rw [otherB, if_pos hb0]; simp [plainTx], rfl⟩
  ·
    refine G_seq ?_
    refine g_region ?_
    refine sv rfl (y_eql) ?_
    refine sv rfl (y_assign) ?_
    refine GOps_nil ?_
    refine thn_normal ?_
    refine g_cond (fun hb1 => ?_) (fun hb1 => ?_)
    ·
      refine G_seq ?_
      refine g_region ?_
      first | refine sv rfl (y_fieldAt 1 Tryz.underlying27 rfl sz9) ?_ | refine sv rfl (y_fieldAddr Tryz.underlying27 rfl sz9) ?_ | refine sv rfl (y_fieldp_leaf Tryz.underlying27 rfl sz9) ?_
      first | refine sv rfl (y_load_leaf Tryz.underlying9) ?_ | refine sv rfl (y_loadp_leaf Tryz.underlying9) ?_
      refine g_call (xs := [.tmp 36]) rfl (c167 name) ?_
      refine sv rfl (y_move) ?_
      first | refine sg rfl (fun hg => q_fieldAddr Tryz.underlying27 rfl sz3) ?_ | refine sg rfl (fun hg => q_fieldp_leaf Tryz.underlying27 rfl sz3) ?_
      first | refine sg rfl (fun hg => strip 39 (by simp only [GS.set, GS.get, List.lookup_cons, Nat.reduceBEq] <;> rfl) hg (q_load_leaf Tryz.underlying3)) ?_ | refine sg rfl (fun hg => strip 39 (by simp only [GS.set, GS.get, List.lookup_cons, Nat.reduceBEq] <;> rfl) hg (q_loadp_leaf Tryz.underlying3)) ?_
      refine sg rfl (fun hg => strip 40 (by simp only [GS.set, GS.get, List.lookup_cons, Nat.reduceBEq] <;> rfl) hg (q_eql)) ?_
      refine sv rfl (y_and) ?_
      refine sv rfl (y_move) ?_
      first | refine sg rfl (fun hg => q_fieldAddr Tryz.underlying27 rfl sz22) ?_ | refine sg rfl (fun hg => q_fieldp_leaf Tryz.underlying27 rfl sz22) ?_
      first | refine sg rfl (fun hg => strip 44 (by simp only [GS.set, GS.get, List.lookup_cons, Nat.reduceBEq] <;> rfl) hg (q_load_leaf Tryz.underlying22)) ?_ | refine sg rfl (fun hg => strip 44 (by simp only [GS.set, GS.get, List.lookup_cons, Nat.reduceBEq] <;> rfl) hg (q_loadp_leaf Tryz.underlying22)) ?_
      refine sg rfl (fun hg => strip 45 (by simp only [GS.set, GS.get, List.lookup_cons, Nat.reduceBEq] <;> rfl) hg (q_len Tryz.underlying22)) ?_
      refine sg rfl (fun hg => strip 46 (by simp only [GS.set, GS.get, List.lookup_cons, Nat.reduceBEq] <;> rfl) hg (q_eql)) ?_
      refine sv rfl (y_and) ?_
      refine sv rfl (y_assign) ?_
      refine sv rfl (y_assign) ?_
      refine GOps_nil ?_
      refine thn_normal ?_
      refine G_ret ?_
      refine blk_ret ?_
      refine thn_ret ?_
      refine find2 (by simp) ?_
      exact ⟨by rw [otherB, if_neg (by rw [hb0]; decide), if_pos hb1]; simp, rfl⟩
    ·
      refine G_seq ?_
      refine g_region ?_
      refine sv rfl (y_eql) ?_
      refine sv rfl (y_assign) ?_
      refine GOps_nil ?_
      refine thn_normal ?_
      refine g_cond (fun hb2 => ?_) (fun hb2 => ?_)
      ·
        refine G_seq ?_
        refine g_region ?_
        first | refine sv rfl (y_load_agg sz27 Tryz.underlying27 rfl) ?_ | refine sv rfl (y_loadp_agg (by exact sz27) Tryz.underlying27 rfl) ?_
        refine g_call (xs := [.tmp 51]) rfl ((Tr.d_mk op name num ks ▸ c168 (.mk op name num ks))) ?_
        refine sv rfl (y_assign) ?_
        refine sv rfl (y_assign) ?_
        refine GOps_nil ?_
        refine thn_normal ?_
        refine G_ret ?_
        refine blk_ret ?_
        refine thn_ret ?_
        refine find2 (by simp) ?_
        exact ⟨by rw [otherB, if_neg (by rw [hb0]; decide), if_neg (by rw [hb1]; decide), if_pos hb2], rfl⟩
      ·
        refine G_seq ?_
        refine g_region ?_
        refine sv rfl (y_eql) ?_
        refine sv rfl (y_assign) ?_
        refine GOps_nil ?_
        refine thn_normal ?_
        refine g_cond (fun hb3 => ?_) (fun hb3 => ?_)
        ·
          refine G_seq ?_
          refine g_keep [0, 1, 2, 3, 4, 5, 6, 8] ?_
          refine g_region ?_
          first | refine sv rfl (y_load_agg sz27 Tryz.underlying27 rfl) ?_ | refine sv rfl (y_loadp_agg (by exact sz27) Tryz.underlying27 rfl) ?_
          refine g_call (xs := [.tmp 55]) rfl ((Tr.d_mk op name num ks ▸ c285 (.mk op name num ks) hok)) ?_
          refine sv rfl (y_assign) ?_
          refine sv rfl (y_assign) ?_
          refine GOps_nil ?_
          refine thn_normal ?_
          refine G_ret ?_
          refine blk_ret ?_
          refine thn_ret ?_
          refine find2 (by simp) ?_
          exact ⟨by rw [otherB, if_neg (by rw [hb0]; decide), if_neg (by rw [hb1]; decide), if_neg (by rw [hb2]; decide), if_pos hb3], rfl⟩
        ·
          refine G_seq ?_
          refine g_keep [0, 1, 2, 3, 4, 5, 6, 8] ?_
          refine g_region ?_
          refine sv rfl (y_eql) ?_
          refine sv rfl (y_assign) ?_
          refine GOps_nil ?_
          refine thn_normal ?_
          refine g_cond (fun hb4 => ?_) (fun hb4 => ?_)
          ·
            refine G_seq ?_
            refine g_region ?_
            first | refine sv rfl (y_fieldAt 1 Tryz.underlying27 rfl sz9) ?_ | refine sv rfl (y_fieldAddr Tryz.underlying27 rfl sz9) ?_ | refine sv rfl (y_fieldp_leaf Tryz.underlying27 rfl sz9) ?_
            first | refine sv rfl (y_load_leaf Tryz.underlying9) ?_ | refine sv rfl (y_loadp_leaf Tryz.underlying9) ?_
            refine g_call (xs := [.tmp 60]) rfl (c167 name) ?_
            refine sv rfl (y_move) ?_
            first | refine sg rfl (fun hg => q_fieldAddr Tryz.underlying27 rfl sz3) ?_ | refine sg rfl (fun hg => q_fieldp_leaf Tryz.underlying27 rfl sz3) ?_
            first | refine sg rfl (fun hg => strip 63 (by simp only [GS.set, GS.get, List.lookup_cons, Nat.reduceBEq] <;> rfl) hg (q_load_leaf Tryz.underlying3)) ?_ | refine sg rfl (fun hg => strip 63 (by simp only [GS.set, GS.get, List.lookup_cons, Nat.reduceBEq] <;> rfl) hg (q_loadp_leaf Tryz.underlying3)) ?_
            refine sg rfl (fun hg => strip 64 (by simp only [GS.set, GS.get, List.lookup_cons, Nat.reduceBEq] <;> rfl) hg (q_eql)) ?_
            refine sv rfl (y_and) ?_
            refine sv rfl (y_move) ?_
            first | refine sg rfl (fun hg => q_load_agg sz27 Tryz.underlying27 rfl) ?_ | refine sg rfl (fun hg => q_loadp_agg (by exact sz27) Tryz.underlying27 rfl) ?_
            refine g_callg (xs := [.tmp 68, .func 286]) rfl (fun hg => (Tr.d_mk op name num ks ▸ c159 (.mk op name num ks) 286 (fun op => isExprB op || op == 30) hok c286)) ?_
            refine sv rfl (y_and) ?_
            refine sv rfl (y_assign) ?_
            refine sv rfl (y_assign) ?_
            refine GOps_nil ?_
            refine thn_normal ?_
            refine G_ret ?_
            refine blk_ret ?_
            refine thn_ret ?_
            refine find2 (by simp) ?_
            exact ⟨by rw [otherB, if_neg (by rw [hb0]; decide), if_neg (by rw [hb1]; decide), if_neg (by rw [hb2]; decide), if_neg (by rw [hb3]; decide), if_pos hb4]; simp [Tr.kids_mk], rfl⟩
          ·
            refine G_seq ?_
            refine g_region ?_
            refine sv rfl (y_eql) ?_
            refine sv rfl (y_assign) ?_
            refine GOps_nil ?_
            refine thn_normal ?_
            refine g_cond (fun hb5 => ?_) (fun hb5 => ?_)
            ·
              refine G_seq ?_
              obtain ⟨mo, mg, mt, hmo⟩ : ∃ mo mg mt, opGet name = (mo, mg, mt) := ⟨_, _, _, rfl⟩
              have hmt := opGet_takes name
              rw [hmo] at hmt
              replace hmt : 0 ≤ mt ∧ mt ≤ 2 := hmt
              have hmg := mget_ops name
              rw [hmo] at hmg
              refine g_cg [74, 75, 76, 77, 73, 78, 79, 5, 6] (fun bq => cond (bq 7) ([] ++ [cond (bq 8) [.d (.str mo), .d (.str mg), .d (.int .i64 mt)] [.d (.str ⟨#[]⟩), .d (.str ⟨#[]⟩), .d (.int .i64 0)]]) []) rfl ?_
              refine cg_pre [] ?_
              refine cg_st 1 (fun bq rest hc1 hc2 hc3 => g_call (xs := []) rfl (c224) (GOps_nil ⟨rfl, rfl⟩)) ?_
              refine cg_pre [] ?_
              first | refine cg_st 2 (fun bq rest hc1 hc2 hc3 => sv rfl (y_fieldAt 1 Tryz.underlying27 rfl sz9) (GOps_nil ⟨rfl, rfl⟩)) ?_ | refine cg_st 2 (fun bq rest hc1 hc2 hc3 => sv rfl (y_fieldAddr Tryz.underlying27 rfl sz9) (GOps_nil ⟨rfl, rfl⟩)) ?_ | refine cg_st 2 (fun bq rest hc1 hc2 hc3 => sv rfl (y_fieldp_leaf Tryz.underlying27 rfl sz9) (GOps_nil ⟨rfl, rfl⟩)) ?_
              refine cg_pre [1] ?_
              first | refine cg_st 3 (fun bq rest hc1 hc2 hc3 => sv rfl (y_load_leaf Tryz.underlying9) (GOps_nil ⟨rfl, rfl⟩)) ?_ | refine cg_st 3 (fun bq rest hc1 hc2 hc3 => sv rfl (y_loadp_leaf Tryz.underlying9) (GOps_nil ⟨rfl, rfl⟩)) ?_
              refine cg_pre [0, 2] ?_
              refine cg_st 4 (fun bq rest hc1 hc2 hc3 => sv rfl (Yld_pure rfl (of_decide_eq_true rfl) (q_lookup2 (zd := .agg [.str ⟨#[]⟩, .str ⟨#[]⟩, .int .i64 0]) Tryz.underlying232 Tryz.underlying9 zr231)) (GOps_nil ⟨rfl, rfl⟩)) ?_
              rw [hmg, mhas_ops]
              unfold opVal
              refine cg_pre [3] ?_
              refine cg_st 5 (fun bq rest hc1 hc2 hc3 => sv rfl (y_move) (GOps_nil ⟨rfl, rfl⟩)) ?_
              refine cg_pre [4] ?_
              refine cg_st 6 (fun bq rest hc1 hc2 hc3 => sv rfl (y_extract) (GOps_nil ⟨rfl, rfl⟩)) ?_
              refine cg_pre [4] ?_
              refine cg_st 7 (fun bq rest hc1 hc2 hc3 => sv rfl (y_extract) (GOps_nil ⟨rfl, rfl⟩)) ?_
              refine cg_pre [] ?_
              refine cg_st 8 (fun bq rest hc1 hc2 hc3 => by
                  have hs := hc3.no 8 7 hc1
                  have e1 : upd bq 7 7 = true := rfl
                  have e2 : upd bq 7 8 = false := hs
                  simp only [hc1, cond_false]
                  refine sv rfl (y_alloc zr231) ?_
                  exact (GOps_nil ⟨rfl, by rw [e1, e2]; rfl⟩)) ?_
              refine cg_pre [7, 5, 0, 0, 1, 2, 3, 4, 5, 7] ?_
              refine cg_act 9 (fun bq rest hc1 hc2 hc3 => by
                  have ha := hc2 7 dep_in
                  have e1 : upd bq 8 7 = true := ha
                  have e2 : upd bq 8 8 = true := rfl
                  simp only [ha, hc1, cond_true, cond_false]
                  refine sa rfl (d_store sz231) ?_
                  exact (GOps_nil ⟨rfl, by rw [e1, e2]; rfl⟩)) ?_
              refine cg_pre [6, 8, 0, 1, 2, 3, 4, 5, 6, 7, 8] ?_
              refine cg_st 10 (fun bq rest hc1 hc2 hc3 => sv rfl (y_assign) (GOps_nil ⟨rfl, rfl⟩)) ?_
              refine cg_done (mem'' := [[.d (.str mo), .d (.str mg), .d (.int .i64 mt)]]) ?_
              refine thn_normal ?_
              refine G_seq ?_
              refine g_keep [0, 1, 2, 3, 4, 5, 6, 8] ?_
              refine g_cg0 [80, 81, 82, 83, 84, 85, 86, 87, 88, 89, 90, 91, 92, 93, 2, 3] ?_
              refine cg_pre [] ?_
              refine cg_st 1 (fun bq rest hc1 hc2 hc3 => sv rfl (y_move) (GOps_nil ⟨rfl, rfl⟩)) ?_
              refine cg_pre [0] ?_
              refine cg_st 2 (fun bq rest hc1 hc2 hc3 => sv rfl (y_move) (GOps_nil ⟨rfl, rfl⟩)) ?_
              refine cg_pre [1] ?_
              first | refine cg_st 3 (fun bq rest hc1 hc2 hc3 => sg rfl (fun hg => q_fieldAddr Tryz.underlying27 rfl sz3) (GOps_nil ⟨rfl, rfl⟩)) ?_ | refine cg_st 3 (fun bq rest hc1 hc2 hc3 => sg rfl (fun hg => q_fieldp_leaf Tryz.underlying27 rfl sz3) (GOps_nil ⟨rfl, rfl⟩)) ?_
              refine cg_pre [2, 1] ?_
              first | refine cg_st 4 (fun bq rest hc1 hc2 hc3 => sg rfl (fun hg => strip 82 (by simp only [GS.set, GS.get, List.lookup_cons, Nat.reduceBEq] <;> rfl) hg (q_load_leaf Tryz.underlying3)) (GOps_nil ⟨rfl, rfl⟩)) ?_ | refine cg_st 4 (fun bq rest hc1 hc2 hc3 => sg rfl (fun hg => strip 82 (by simp only [GS.set, GS.get, List.lookup_cons, Nat.reduceBEq] <;> rfl) hg (q_loadp_leaf Tryz.underlying3)) (GOps_nil ⟨rfl, rfl⟩)) ?_
              refine cg_pre [3, 1] ?_
              refine cg_st 5 (fun bq rest hc1 hc2 hc3 => sg rfl (fun hg => strip 83 (by simp only [GS.set, GS.get, List.lookup_cons, Nat.reduceBEq] <;> rfl) hg (q_eql)) (GOps_nil ⟨rfl, rfl⟩)) ?_
              refine cg_pre [1, 4] ?_
              refine cg_st 6 (fun bq rest hc1 hc2 hc3 => sv rfl (y_and) (GOps_nil ⟨rfl, rfl⟩)) ?_
              refine cg_pre [5, 1] ?_
              refine cg_st 7 (fun bq rest hc1 hc2 hc3 => sv rfl (y_move) (GOps_nil ⟨rfl, rfl⟩)) ?_
              refine cg_pre [6] ?_
              first | refine cg_st 8 (fun bq rest hc1 hc2 hc3 => sg rfl (fun hg => q_load_agg sz27 Tryz.underlying27 rfl) (GOps_nil ⟨rfl, rfl⟩)) ?_ | refine cg_st 8 (fun bq rest hc1 hc2 hc3 => sg rfl (fun hg => q_loadp_agg (by exact sz27) Tryz.underlying27 rfl) (GOps_nil ⟨rfl, rfl⟩)) ?_
              refine cg_pre [6] ?_
              first | refine cg_st 9 (fun bq rest hc1 hc2 hc3 => sg rfl (fun hg => q_fieldAddr Tryz.underlying231 rfl sz3) (GOps_nil ⟨rfl, rfl⟩)) ?_ | refine cg_st 9 (fun bq rest hc1 hc2 hc3 => sg rfl (fun hg => q_fieldp_leaf Tryz.underlying231 rfl sz3) (GOps_nil ⟨rfl, rfl⟩)) ?_
              refine cg_pre [8, 6] ?_
              first | refine cg_st 10 (fun bq rest hc1 hc2 hc3 => sg rfl (fun hg => strip 88 (by simp only [GS.set, GS.get, List.lookup_cons, Nat.reduceBEq] <;> rfl) hg (q_load_leaf Tryz.underlying3)) (GOps_nil ⟨rfl, rfl⟩)) ?_ | refine cg_st 10 (fun bq rest hc1 hc2 hc3 => sg rfl (fun hg => strip 88 (by simp only [GS.set, GS.get, List.lookup_cons, Nat.reduceBEq] <;> rfl) hg (q_loadp_leaf Tryz.underlying3)) (GOps_nil ⟨rfl, rfl⟩)) ?_
              refine cg_pre [9, 6] ?_
              refine cg_st 11 (fun bq rest hc1 hc2 hc3 => sg rfl (fun hg => strip 89 (by simp only [GS.set, GS.get, List.lookup_cons, Nat.reduceBEq] <;> rfl) hg (q_add)) (GOps_nil ⟨rfl, rfl⟩)) ?_
              refine cg_pre [10, 6] ?_
              refine cg_st 12 (fun bq rest hc1 hc2 hc3 => sg rfl (fun hg => strip 90 (by simp only [GS.set, GS.get, List.lookup_cons, Nat.reduceBEq] <;> rfl) hg (q_strh Tryz.underlying9 (h1 := by show mt + 1 ≤ 3; omega))) (GOps_nil ⟨rfl, rfl⟩)) ?_
              refine cg_pre [7, 11, 6, 6] ?_
              refine cg_st 13 (fun bq rest hc1 hc2 hc3 => g_callg (xs := [.tmp 87, .tmp 91]) rfl (fun hg => (Tr.d_mk op name num ks ▸ c156 (.mk op name num ks) (eee.extract 0 (mt + 1).toNat) hok)) (GOps_nil ⟨rfl, rfl⟩)) ?_
              refine cg_pre [6, 12] ?_
              refine cg_st 14 (fun bq rest hc1 hc2 hc3 => sv rfl (y_and) (GOps_nil ⟨rfl, rfl⟩)) ?_
              refine cg_pre [13, 12, 0, 1, 2, 3, 4, 5, 6, 7, 8, 9, 10, 11, 12, 13] ?_
              refine cg_st 15 (fun bq rest hc1 hc2 hc3 => sv rfl (y_assign) (GOps_nil ⟨rfl, rfl⟩)) ?_
              refine cg_pre [14, 0, 1, 2, 3, 4, 5, 6, 7, 8, 9, 10, 11, 12, 13, 14] ?_
              refine cg_st 16 (fun bq rest hc1 hc2 hc3 => sv rfl (y_assign) (GOps_nil ⟨rfl, rfl⟩)) ?_
              refine cg_done ?_
              refine thn_normal ?_
              refine G_ret ?_
              refine blk_ret ?_
              refine thn_ret ?_
              refine find2 (by simp) ?_
              exact ⟨by rw [otherB, if_neg (by rw [hb0]; decide), if_neg (by rw [hb1]; decide), if_neg (by rw [hb2]; decide), if_neg (by rw [hb3]; decide), if_neg (by rw [hb4]; decide), if_pos hb5]; rw [hmo]; rfl, rfl⟩
            ·
              refine G_seq ?_
              refine g_region ?_
              refine sv rfl (y_eql) ?_
              refine sv rfl (y_assign) ?_
              refine GOps_nil ?_
              refine thn_normal ?_
              refine g_cond (fun hb6 => ?_) (fun hb6 => ?_)
              ·
                refine G_seq ?_
                refine G_seq ?_
                refine g_region ?_
                first | refine sv rfl (y_fieldAt 1 Tryz.underlying27 rfl sz9) ?_ | refine sv rfl (y_fieldAddr Tryz.underlying27 rfl sz9) ?_ | refine sv rfl (y_fieldp_leaf Tryz.underlying27 rfl sz9) ?_
                first | refine sv rfl (y_load_leaf Tryz.underlying9) ?_ | refine sv rfl (y_loadp_leaf Tryz.underlying9) ?_
                refine sv rfl (y_streq) ?_
                refine GOps_nil ?_
                refine thn_normal ?_
                refine g_cond (fun hb7 => ?_) (fun hb7 => ?_)
                ·
                  refine G_seq ?_
                  refine g_region ?_
                  first | refine sv rfl (y_fieldAt 2 Tryz.underlying27 rfl sz3) ?_ | refine sv rfl (y_fieldAddr Tryz.underlying27 rfl sz3) ?_ | refine sv rfl (y_fieldp_leaf Tryz.underlying27 rfl sz3) ?_
                  first | refine sv rfl (y_load_leaf Tryz.underlying3) ?_ | refine sv rfl (y_loadp_leaf Tryz.underlying3) ?_
                  refine sv rfl (y_eql) ?_
                  refine sv rfl (y_move) ?_
                  first | refine sg rfl (fun hg => q_load_agg sz27 Tryz.underlying27 rfl) ?_ | refine sg rfl (fun hg => q_loadp_agg (by exact sz27) Tryz.underlying27 rfl) ?_
                  refine g_callg (xs := [.tmp 103, .const (.string ⟨#[101, 101]⟩)]) rfl (fun hg => (Tr.d_mk op name num ks ▸ c156 (.mk op name num ks) ee hok)) ?_
                  refine sv rfl (y_and) ?_
                  refine sv rfl (y_assign) ?_
                  refine sv rfl (y_assign) ?_
                  refine GOps_nil ?_
                  refine thn_normal ?_
                  refine G_ret ?_
                  refine thn_ret ?_
                  refine blk_ret ?_
                  refine thn_ret ?_
                  refine find2 (by simp) ?_
                  exact ⟨by rw [otherB, if_neg (by rw [hb0]; decide), if_neg (by rw [hb1]; decide), if_neg (by rw [hb2]; decide), if_neg (by rw [hb3]; decide), if_neg (by rw [hb4]; decide), if_neg (by rw [hb5]; decide), if_pos hb6]; rw [if_pos (show decide (name = bcB) = true from hb7)]; rfl, rfl⟩
                ·
                  refine G_skip ?_
                  refine thn_normal ?_
                  refine G_seq ?_
                  refine g_region ?_
                  first | refine sv rfl (y_fieldAt 2 Tryz.underlying27 rfl sz3) ?_ | refine sv rfl (y_fieldAddr Tryz.underlying27 rfl sz3) ?_ | refine sv rfl (y_fieldp_leaf Tryz.underlying27 rfl sz3) ?_
                  first | refine sv rfl (y_load_leaf Tryz.underlying3) ?_ | refine sv rfl (y_loadp_leaf Tryz.underlying3) ?_
                  refine sv rfl (y_eql) ?_
                  refine sv rfl (y_move) ?_
                  first | refine sg rfl (fun hg => q_fieldAddr Tryz.underlying27 rfl sz9) ?_ | refine sg rfl (fun hg => q_fieldp_leaf Tryz.underlying27 rfl sz9) ?_
                  first | refine sg rfl (fun hg => strip 110 (by simp only [GS.set, GS.get, List.lookup_cons, Nat.reduceBEq] <;> rfl) hg (q_load_leaf Tryz.underlying9)) ?_ | refine sg rfl (fun hg => strip 110 (by simp only [GS.set, GS.get, List.lookup_cons, Nat.reduceBEq] <;> rfl) hg (q_loadp_leaf Tryz.underlying9)) ?_
                  refine sg rfl (fun hg => strip 111 (by simp only [GS.set, GS.get, List.lookup_cons, Nat.reduceBEq] <;> rfl) hg (q_streq)) ?_
                  refine sg rfl (fun hg => strip 112 (by simp only [GS.set, GS.get, List.lookup_cons, Nat.reduceBEq] <;> rfl) hg (q_move)) ?_
                  first | refine sg rfl (fun hg => q_fieldAddr Tryz.underlying27 rfl sz9) ?_ | refine sg rfl (fun hg => q_fieldp_leaf Tryz.underlying27 rfl sz9) ?_
                  first | refine sg rfl (fun hg => strip 114 (by simp only [GS.set, GS.get, List.lookup_cons, Nat.reduceBEq] <;> rfl) hg (q_load_leaf Tryz.underlying9)) ?_ | refine sg rfl (fun hg => strip 114 (by simp only [GS.set, GS.get, List.lookup_cons, Nat.reduceBEq] <;> rfl) hg (q_loadp_leaf Tryz.underlying9)) ?_
                  refine sg rfl (fun hg => strip 115 (by simp only [GS.set, GS.get, List.lookup_cons, Nat.reduceBEq] <;> rfl) hg (q_streq)) ?_
                  refine sg rfl (fun hg => strip 113 (by simp only [GS.set, GS.get, List.lookup_cons, Nat.reduceBEq] <;> rfl) hg (q_or)) ?_
                  refine sg rfl (fun hg => strip 117 (by simp only [GS.set, GS.get, List.lookup_cons, Nat.reduceBEq] <;> rfl) hg (q_move)) ?_
                  first | refine sg rfl (fun hg => q_fieldAddr Tryz.underlying27 rfl sz9) ?_ | refine sg rfl (fun hg => q_fieldp_leaf Tryz.underlying27 rfl sz9) ?_
                  first | refine sg rfl (fun hg => strip 119 (by simp only [GS.set, GS.get, List.lookup_cons, Nat.reduceBEq] <;> rfl) hg (q_load_leaf Tryz.underlying9)) ?_ | refine sg rfl (fun hg => strip 119 (by simp only [GS.set, GS.get, List.lookup_cons, Nat.reduceBEq] <;> rfl) hg (q_loadp_leaf Tryz.underlying9)) ?_
                  refine sg rfl (fun hg => strip 120 (by simp only [GS.set, GS.get, List.lookup_cons, Nat.reduceBEq] <;> rfl) hg (q_streq)) ?_
                  refine sg rfl (fun hg => strip 118 (by simp only [GS.set, GS.get, List.lookup_cons, Nat.reduceBEq] <;> rfl) hg (q_or)) ?_
                  refine sv rfl (y_and) ?_
                  refine sv rfl (y_move) ?_
                  first | refine sg rfl (fun hg => q_load_agg sz27 Tryz.underlying27 rfl) ?_ | refine sg rfl (fun hg => q_loadp_agg (by exact sz27) Tryz.underlying27 rfl) ?_
                  refine g_callg (xs := [.tmp 125, .const (.string ⟨#[101]⟩)]) rfl (fun hg => (Tr.d_mk op name num ks ▸ c156 (.mk op name num ks) e1 hok)) ?_
                  refine sv rfl (y_and) ?_
                  refine sv rfl (y_assign) ?_
                  refine sv rfl (y_assign) ?_
                  refine GOps_nil ?_
                  refine thn_normal ?_
                  refine G_ret ?_
                  refine blk_ret ?_
                  refine thn_ret ?_
                  refine find2 (by simp) ?_
                  exact ⟨by rw [otherB, if_neg (by rw [hb0]; decide), if_neg (by rw [hb1]; decide), if_neg (by rw [hb2]; decide), if_neg (by rw [hb3]; decide), if_neg (by rw [hb4]; decide), if_neg (by rw [hb5]; decide), if_pos hb6]; rw [if_neg (show ¬ decide (name = bcB) = true from by rw [show decide (name = bcB) = false from hb7]; decide)]; rfl, rfl⟩
              ·
                refine G_skip ?_
                refine blk_normal ?_
                refine thn_normal ?_
                refine G_seq ?_
                refine g_region ?_
                refine sv rfl (y_assign) ?_
                refine sv rfl (y_assign) ?_
                refine GOps_nil ?_
                refine thn_normal ?_
                refine G_ret ?_
                refine find2 (by simp) ?_
                exact ⟨by rw [otherB, if_neg (by rw [hb0]; decide), if_neg (by rw [hb1]; decide), if_neg (by rw [hb2]; decide), if_neg (by rw [hb3]; decide), if_neg (by rw [hb4]; decide), if_neg (by rw [hb5]; decide), if_neg (by rw [hb6]; decide)], rfl⟩
end Go.Proofs.YtklkbfpjimeaoaaGreat
