import Derived.Test.YtklkbfpjimeaoaaM21
import Derived.Test.YtklkbfpjimeaoaaM23
/- Contracts of functions. Conditions: none. -/
set_option linter.unusedSimpArgs false
set_option linter.unusedVariables false
set_option maxRecDepth 20000
namespace Go.Proofs.Ytklkbfpjimeaoaa
open Go Go.Proofs.Ytklkbfpjimeaoaa.E
section
def hidV (nm : ByteArray) : Lc := ⟨nm, ⟨#[]⟩, false, 0, 0⟩
theorem c58h (nm : ByteArray) (h : List Lc) : Gm Try.prog 58 [.d (.str nm), .ref 0 0] [[.d (locD h)]] (.tup []) [[.d (locD (hidV nm :: h))]] := by
 rcases h with _ | ⟨x, r⟩
 all_goals dsimp only [locD, hidV]
 all_goals refine gmB 1 Try.func58 Try.ntmps58 Try.results58 (fun S0 O0 w0 m0 hm0 => ?_)
 all_goals repeat' first | refine fz true (s := ⟨_, [_, _]⟩) (by exact rfl) ?_ | refine st (by exact rfl) ?_ | fail
 all_goals exact enm (by exact rfl) rfl (msame rfl)
theorem mm1 {k : Nat} {c : List PV} {rest : List (List PV)} (h : PV.refsBs k c = true) : MSub k (c :: rest) [c] := .cons (csame h) .nil
theorem locD_cells (l : List Lc) : PV.cellsOf (.d (locD l)) = [.d (locD l)] := by cases l <;> rfl
theorem sizes_at : ∀ {l : List Tr} {z : Nat} {k : Tr}, l[z]? = some k → Tr.sizes (l.drop z) = k.size + Tr.sizes (l.drop (z + 1))
 | x :: r, 0, k, h => by
  simp at h; subst h
  rw [List.drop_zero, Tr.sizes]; rfl
 | x :: r, z + 1, k, h => by
  rw [List.drop_succ_cons, List.drop_succ_cons]
  exact sizes_at (l := r) (by simpa using h)
theorem sizes_drop_le : ∀ (l : List Tr) (z : Nat), Tr.sizes (l.drop z) ≤ Tr.sizes l
 | [], z => by simp
 | x :: r, 0 => by simp
 | x :: r, z + 1 => by
  rw [List.drop_succ_cons, Tr.sizes]
  have := sizes_drop_le r z
  omega
theorem addP_len (p : ByteArray → Bool) (nm : ByteArray) (out : List ByteArray) : (addP p nm out).length ≤ out.length + 1 := by
 unfold addP
 split
 · split
   · omega
   · simp
 · omega
theorem freeA_len {F : Tr → (ByteArray → Bool) → List ByteArray → List ByteArray} : ∀ {ks : List Tr} {p : ByteArray → Bool} {out : List ByteArray}, (∀ k ∈ ks, ∀ p o, (F k p o).length ≤ o.length + k.size) → (freeA F ks p out).length ≤ out.length + Tr.sizes ks
 | [], p, out, _ => by rw [freeA]; omega
 | k :: r, p, out, h => by
  rw [freeA, Tr.sizes]
  have h1 := freeA_len (ks := r) (p := p) (out := F k p out) (fun k' hk => h k' (.tail _ hk))
  have h2 := h k (.head _) p out
  omega
theorem freeL_len {F : Tr → (ByteArray → Bool) → List ByteArray → List ByteArray} : ∀ {ks : List Tr} {p : ByteArray → Bool} {out : List ByteArray}, (∀ k ∈ ks, ∀ p o, (F k p o).length ≤ o.length + k.size) → (freeL F ks p out).length ≤ out.length + Tr.sizes ks
 | [], p, out, _ => by rw [freeL]; omega
 | k :: r, p, out, h => by
  rw [freeL, Tr.sizes]
  have h1 := freeL_len (ks := r) (p := if k.op = 50 then hideP p k.nm else p) (out := F k p out) (fun k' hk => h k' (.tail _ hk))
  have h2 := h k (.head _) p out
  omega
theorem free_len : ∀ (z : Nat) (t : Tr) (p : ByteArray → Bool) (out : List ByteArray), (freeF z t p out).length ≤ out.length + t.size := by
 intro z
 induction z with
 | zero => intro t p out; rw [freeF]; omega
 | succ z ih =>
  intro t p out
  obtain ⟨op, nm, num, ks⟩ := t
  rw [freeF, Tr.size]
  split
  · have := addP_len p nm out
    omega
  · split
    · split
      · rename_i e b he hb
        have h1 := sizes_at he
        have h2 := sizes_at hb
        have h3 := sizes_drop_le ks num.toNat
        have h4 := freeA_len (ks := ks.drop (num.toNat + 2)) (p := p) (out := freeF z b (hideA p (ks.take num.toNat)) (freeF z e p out)) (fun k _ p o => ih k p o)
        have h5 := ih b (hideA p (ks.take num.toNat)) (freeF z e p out)
        have h6 := ih e p out
        rw [show num.toNat + 1 + 1 = num.toNat + 2 from rfl] at h2
        omega
      · omega
    · have := freeL_len (ks := ks) (p := p) (out := out) (fun k _ p o => ih k p o)
      omega
theorem hideA_snoc : ∀ (l : List Tr) (k : Tr) (p : ByteArray → Bool), hideA p (l ++ [k]) = hideP (hideA p l) k.nm
 | [], k, p => rfl
 | x :: r, k, p => by rw [List.cons_append, hideA, hideA, hideA_snoc r k]
variable {l : List Tr} {z : Nat} {k : Tr}
theorem take_snoc (h : l[z]? = some k) : l.take (z + 1) = l.take z ++ [k] := by
 rw [List.take_add_one, h]; rfl
variable {p : ByteArray → Bool}
theorem freeA_at {F : Tr → (ByteArray → Bool) → List ByteArray → List ByteArray} {o : List ByteArray} (h : l[z]? = some k) : freeA F (l.drop z) p o = freeA F (l.drop (z + 1)) p (F k p o) := by
 obtain ⟨hz, hk'⟩ := List.getElem?_eq_some_iff.1 h
 rw [List.drop_eq_getElem_cons hz, hk', freeA]
theorem freeL_at {F : Tr → (ByteArray → Bool) → List ByteArray → List ByteArray} {o : List ByteArray} (h : l[z]? = some k) : freeL F (l.drop z) p o = freeL F (l.drop (z + 1)) (if k.op = 50 then hideP p k.nm else p) (F k p o) := by
 obtain ⟨hz, hk'⟩ := List.getElem?_eq_some_iff.1 h
 rw [List.drop_eq_getElem_cons hz, hk', freeL]
theorem loop_eq (op num : Int) (n : Nat) (hn : n ≤ 1000000) : ((((((op == 54) || (op == 55)) || (op == 56)) && decide (num ≥ 0)) && decide (num ≤ 2)) && decide ((n : Int) ≥ IntKind.i64.wrap (num + 2))) = loopC op num n := by
 unfold loopC
 by_cases h0 : 0 ≤ num
 · by_cases h2 : num ≤ 2
   · rw [wrap_i64 (by omega) (by omega)]
     have e : ∀ x : Int, (op == x) = decide (op = x) := fun x => by
      by_cases h : op = x
      · subst h; simp
      · simp [h]
     rw [e, e, e]
     simp only [ge_iff_le, h0, h2, decide_true, Bool.and_true, Bool.true_and]
   · simp [h2]
 · simp [h0]
variable {op num : Int}
theorem loop_facts {n : Nat} (h : loopC op num n = true) : 0 ≤ num ∧ num ≤ 2 ∧ num + 2 ≤ (n : Int) := by
 unfold loopC at h
 simp only [Bool.and_eq_true, decide_eq_true_eq] at h
 exact ⟨h.2.1, h.2.2.1, h.2.2.2⟩
variable {nm : ByteArray} {ks : List Tr} {out : List ByteArray}
theorem freeF_name : freeF (z + 1) (.mk 4 nm num ks) p out = addP p nm out := by
 rw [freeF, if_pos rfl]
theorem freeF_loop {e b : Tr} (h4 : ¬ op = 4) (hl : loopC op num ks.length = true) (he : ks[num.toNat]? = some e) (hb : ks[num.toNat + 1]? = some b) :
 freeF (z + 1) (.mk op nm num ks) p out = freeA (freeF z) (ks.drop (num.toNat + 2)) p (freeF z b (hideA p (ks.take num.toNat)) (freeF z e p out)) := by
 rw [freeF, if_neg h4, if_pos hl, he, hb]
theorem freeF_kids (h4 : ¬ op = 4) (hl : ¬ loopC op num ks.length = true) : freeF (z + 1) (.mk op nm num ks) p out = freeL (freeF z) ks p out := by
 rw [freeF, if_neg h4, if_neg hl]
theorem d_op {kop knu : Int} {knm : ByteArray} {kks : List Tr} (h : k.d = .agg [.int .i64 kop, .str knm, .int .i64 knu, .sl (List.map Tr.d kks)]) : k.op = kop ∧ k.nm = knm := by
 obtain ⟨a, b, c, d⟩ := k
 rw [Tr.d_mk] at h
 injection h with h; injection h with h1 h; injection h with h2 _
 injection h1 with _ h1
 injection h2 with h2
 exact ⟨h1, h2⟩
set_option maxHeartbeats 8000000 in
theorem c37n (locals : List ByteArray) (hll : locals.length ≤ 1000000) : ∀ (z : Nat) (t : Tr), t.size ≤ z → ∀ (hid : List Lc) (out : List ByteArray), out.length + t.size ≤ 1000000 →
 Gm Try.prog 37 [.d t.d, .d (locD hid), .d (.sl (locals.map .str)), .ref 0 0] [[.osl 1 (out.map .str)]] (.tup []) [[.osl 1 ((freeF z t (pH locals hid) out).map .str)]] := by
 intro z
 induction z with
 | zero => intro t h; exact absurd t.size_pos (by omega)
 | succ z ih =>
  intro t hsz hid out hB
  obtain ⟨op, nm, num, ks⟩ := t
  have hkd : ∀ k ∈ ks, k.size ≤ z := fun k hk => by
   have := Tr.size_mem hk
   rw [Tr.size] at hsz
   omega
  rw [Tr.size] at hB
  have hkl : ks.length ≤ 1000000 := by
   have := Tr.len_sizes ks
   omega
  have hlen : (ks.map Tr.d).length = ks.length := List.length_map ..
  have hol : (out.map D.str).length = out.length := List.length_map ..
  rw [Tr.d_mk]
  refine gmB 1 Try.func37 Try.ntmps37 Try.results37 (fun S0 O0 w0 m0 hm0 => ?_)
  repeat' (fail_if_success refine fz true (s := ⟨_, [_, _]⟩) (by exact rfl) ?_); first | refine st (by exact rfl) ?_ | fail
  refine Z32 ?_
  refine bx (k := 1) (mem' := [[.osl 1 (out.map .str)], [.d (locD hid)]]) (by exact rfl) (locD_cells hid) ?_
  repeat' first | refine st (by exact rfl) ?_ | fail
  by_cases h4 : op = 4
  · subst h4
    rw [freeF_name]
    refine ct (by exact rfl) ?_ rfl
    repeat' first | refine st (by exact rfl) ?_ | fail
    have q1 := c199 locals nm (by omega)
    have q2 := c200L hid nm
    have q3 := c199 out nm (by omega)
    have hP : ∀ r, findL nm hid = r → pH locals hid nm = (hasB locals nm && r.isEmpty) := fun r h => by
     unfold pH
     rw [h]
     cases r <;> rfl
    unfold addP
    generalize hasB locals nm = b1 at *
    generalize hasB out nm = b2 at *
    cases hf : findL nm hid with
    | cons x r =>
     rw [hP _ hf]
     rw [hf] at q2
     dsimp only [locD, List.isEmpty] at q2 ⊢
     refine Z55 ?_;refine Z72 ?_;refine Z11 ?_
     refine oc (hcl := q1) (hc := ?_)
     refine Z72 ?_;refine Z72 ?_
     refine ocg (hcl := fun _ => q2) (hc := ?_)
     refine Z72 ?_;refine Z72 ?_;refine Z72 ?_;refine Z72 ?_
     refine ocg (hcl := fun _ => q3) (hc := ?_)
     refine Z72 ?_;refine Z56 ?_
     repeat' first | refine st (by exact rfl) ?_ | fail
     refine cf (by exact rfl) ?_ (by simp)
     repeat' first | refine st (by exact rfl) ?_ | fail
     rw [if_neg (by simp)]
     exact Y4
    | nil =>
     rw [hP _ hf]
     rw [hf] at q2
     dsimp only [locD, List.isEmpty] at q2 ⊢
     refine Z55 ?_;refine Z72 ?_;refine Z11 ?_
     refine oc (hcl := q1) (hc := ?_)
     refine Z72 ?_;refine Z72 ?_
     refine ocg (hcl := fun _ => q2) (hc := ?_)
     refine Z72 ?_;refine Z72 ?_;refine Z72 ?_;refine Z72 ?_
     refine ocg (hcl := fun _ => q3) (hc := ?_)
     refine Z72 ?_;refine Z56 ?_
     repeat' first | refine st (by exact rfl) ?_ | fail
     refine cd (by exact rfl) (fun hb => ?_) (fun hb => ?_)
     · have h1 : b1 = true := by cases b1 <;> simp_all
       have h2 : b2 = false := by cases b2 <;> simp_all
       subst h1; subst h2
       repeat' first | refine st (by exact rfl) ?_ | fail
       refine oa 3 7 9 [.d (.sl (out.map .str))] [.osl 1 (out.map .str ++ [.str nm])] (hc := ?_)
       refine Z58 ?_;refine Z58 ?_;refine Z58 ?_
       refine ola (hc := ?_)
       refine Z58 ?_;refine Z58 ?_
       refine oba (hc := ?_)
       refine oaa (hc := ?_)
       refine Z58 ?_
       refine osa (hc := ?_)
       refine oea (hc := ?_)
       repeat' first | refine st (by exact rfl) ?_ | fail
       have hE : (if (true && true) = true then (if false = true then out else out ++ [nm]) else out) = out ++ [nm] := rfl
       rw [hE, List.map_append]
       exact Y4
     · repeat' first | refine st (by exact rfl) ?_ | fail
       have hE : (if (b1 && true) = true then (if b2 = true then out else out ++ [nm]) else out) = out := by
        cases b1 <;> cases b2 <;> simp_all
       rw [hE]
       exact Y4
  refine cf (by exact rfl) ?_ (by simpa using h4)
  repeat' first | refine st (by exact rfl) ?_ | fail
  refine cd (by exact rfl) (fun hb => ?_) (fun hb => ?_)
  · have hL : loopC op num ks.length = true := by
     rw [← loop_eq op num ks.length hkl]
     rw [hlen] at hb
     exact hb
    obtain ⟨n0, n2, nl⟩ := loop_facts hL
    have hw1 : IntKind.i64.wrap (num + 1) = num + 1 := wrap_i64 (by omega) (by omega)
    have hw2 : IntKind.i64.wrap (num + 2) = num + 2 := wrap_i64 (by omega) (by omega)
    obtain ⟨e, he⟩ : ∃ e, ks[num.toNat]? = some e := ⟨_, gE (by omega)⟩
    obtain ⟨bo, hbo⟩ : ∃ bo, ks[num.toNat + 1]? = some bo := ⟨_, gE (by omega)⟩
    rw [freeF_loop h4 hL he hbo]
    have s1 := sizes_at he
    have s2 := sizes_at hbo
    rw [show num.toNat + 1 + 1 = num.toNat + 2 from rfl] at s2
    have s3 := sizes_drop_le ks num.toNat
    have l1 := free_len z e (pH locals hid) out
    have ie := ih e (hkd e (mG he)) hid out (by omega)
    generalize freeF z e (pH locals hid) out = o1 at *
    have hed := Tr.ds_get he
    have hbd := Tr.ds_get hbo
    obtain ⟨eop, enm', enu, eks, hea⟩ := e.d_agg
    rw [hea] at ie hed
    obtain ⟨bop, bnm, bnu, bks, hba⟩ := bo.d_agg
    repeat' first | refine st (by exact rfl) ?_ | fail
    refine el (by exact rfl) hed ?_ n0
    repeat' first | refine st (by exact rfl) ?_ | fail
    refine cs [0] (by exact rfl) ie ?_
    repeat' first | refine st (by exact rfl) ?_ | fail
    refine qu (by exact rfl) (by exact ⟨⟨n0, by rw [hlen]; omega⟩, Tr.ds_cells ks⟩) ?_
    repeat' first | refine st (by exact rfl) ?_ | fail
    have htl : ((ks.map Tr.d).take num.toNat).length = num.toNat := by rw [List.length_take, hlen]; omega
    refine gLo (fun y : List Lc × Nat => ⟨[(2, .d (.sl (locals.map .str))), (3, .ref 0 0), (4, .d (.ptr (.agg [.int .i64 op, .str nm, .int .i64 num, .sl (ks.map Tr.d)]))), (5, .ref 1 0), (8, .fn (.func 58) [] [.ref 1 0]), (10, .d (locD hid)), (98, .d (.sl ((ks.map Tr.d).take num.toNat))), (99, .d (.int .i64 (((ks.map Tr.d).take num.toNat).length : Int))), (100, .d (.int .i64 (y.2 : Int)))], [[.osl 1 (o1.map .str)], [.d (locD y.1)]]⟩) (fun y => num.toNat - y.2) (fun y => y.2 ≤ num.toNat ∧ pH locals y.1 = hideA (pH locals hid) (ks.take y.2)) (hid, 0) ⟨Nat.zero_le _, rfl⟩ le_of (fun y hy Q' hn he' hr hp => ?_)
    obtain ⟨l, k⟩ := y
    obtain ⟨hk1, hk2⟩ := hy
    dsimp only at hk1 hk2
    repeat' first | refine st (by exact rfl) ?_ | fail
    refine cd (by exact rfl) (fun hb2 => ?_) (fun hb2 => ?_)
    · have hlt : k < num.toNat := by have := oR hb2; omega
      obtain ⟨x, hx⟩ : ∃ x, ks[k]? = some x := ⟨_, gE (by omega)⟩
      have hxd : ((ks.map Tr.d).take num.toNat)[k]? = some x.d := by rw [List.getElem?_take, if_pos hlt]; exact Tr.ds_get hx
      obtain ⟨xop, xnm, xnu, xks, hxa⟩ := x.d_agg
      obtain ⟨_, hxn⟩ := d_op hxa
      rw [hxa] at hxd
      repeat' first | refine st (by exact rfl) ?_ | fail
      refine el (by exact rfl) hxd ?_ (by omega)
      repeat' first | refine st (by exact rfl) ?_ | fail
      refine cs [1] (by exact rfl) (c58h xnm l) ?_
      repeat' first | refine st (by exact rfl) ?_ | fail
      rw [wrap_succ (by omega)]
      exact toL (hn _ (hidV xnm :: l, k + 1) ⟨hlt, by dsimp only; rw [pH_hide, hk2, take_snoc hx, hideA_snoc, hxn]; rfl⟩ (by dsimp only; omega) le_of)
    · have hkn : k = num.toNat := by have := of_decide_eq_false hb2; omega
      subst hkn
      have ib := ih bo (hkd bo (mG hbo)) l o1 (by omega)
      rw [hk2, hba] at ib
      have l2 := free_len z bo (hideA (pH locals hid) (ks.take num.toNat)) o1
      generalize freeF z bo (hideA (pH locals hid) (ks.take num.toNat)) o1 = o2 at *
      have hbd' : (ks.map Tr.d)[(IntKind.i64.wrap (num + 1)).toNat]? = some (.agg [.int .i64 bop, .str bnm, .int .i64 bnu, .sl (List.map Tr.d bks)]) := by
       rw [hw1, show (num + 1).toNat = num.toNat + 1 from by omega, hbd, hba]
      repeat' first | refine st (by exact rfl) ?_ | fail
      refine toL (he' _ _ ?_)
      repeat' first | refine st (by exact rfl) ?_ | fail
      refine oh 10 [.osl 1 (o2.map .str)] (hc := ?_)
      iterate 5 refine ovh (hc := ?_)
      refine oih (hd := hbd') (h0 := by rw [hw1]; omega) (hc := ?_)
      iterate 4 refine ovh (hc := ?_)
      refine omh (hcl := ib) (hc := ?_)
      refine oeh (hc := ?_)
      repeat' first | refine st (by exact rfl) ?_ | fail
      refine qu (by exact rfl) (by rw [hw2]; exact ⟨⟨by omega, by rw [hlen]; omega⟩, Tr.ds_cells ks⟩) ?_
      have hdr : List.drop (IntKind.i64.wrap (num + 2)).toNat (ks.map Tr.d) = (ks.drop (num.toNat + 2)).map Tr.d := by
       rw [hw2, show (num + 2).toNat = num.toNat + 2 from by omega, List.map_drop]
      rw [hdr]
      have hrm : ∀ k ∈ ks.drop (num.toNat + 2), k.size ≤ z := fun k hk => hkd k (List.mem_of_mem_drop hk)
      have hrl : (ks.drop (num.toNat + 2)).length ≤ 1000000 := by rw [List.length_drop]; omega
      generalize ks.drop (num.toNat + 2) = rs at *
      have hrsl : (rs.map Tr.d).length = rs.length := List.length_map ..
      repeat' first | refine st (by exact rfl) ?_ | fail
      refine gLo (fun y : List ByteArray × Nat => ⟨[(2, .d (.sl (locals.map .str))), (3, .ref 0 0), (10, .d (locD hid)), (125, .d (.sl (rs.map Tr.d))), (126, .d (.int .i64 ((rs.map Tr.d).length : Int))), (127, .d (.int .i64 (y.2 : Int)))], [[.osl 1 (y.1.map .str)]]⟩) (fun y => rs.length - y.2) (fun y => y.2 ≤ rs.length ∧ freeA (freeF z) rs (pH locals hid) o2 = freeA (freeF z) (rs.drop y.2) (pH locals hid) y.1 ∧ y.1.length + Tr.sizes (rs.drop y.2) ≤ 1000000) (o2, 0) ⟨Nat.zero_le _, rfl, by rw [List.drop_zero]; dsimp only; omega⟩ le_of (fun y hy Q2 hn2 he2 hr2 hp2 => ?_)
      obtain ⟨o, k⟩ := y
      obtain ⟨hk1, hk2, hk3⟩ := hy
      dsimp only at hk1 hk2 hk3
      repeat' first | refine st (by exact rfl) ?_ | fail
      refine cd (by exact rfl) (fun hb3 => ?_) (fun hb3 => ?_)
      · have hlt : k < rs.length := by have := oR hb3; omega
        obtain ⟨x, hx⟩ : ∃ x, rs[k]? = some x := ⟨_, gE hlt⟩
        have hxd := Tr.ds_get hx
        have s4 := sizes_at hx
        have l4 := free_len z x (pH locals hid) o
        have ix := ih x (hrm x (mG hx)) hid o (by omega)
        obtain ⟨xop, xnm, xnu, xks, hxa⟩ := x.d_agg
        rw [hxa] at hxd ix
        repeat' first | refine st (by exact rfl) ?_ | fail
        refine el (by exact rfl) hxd ?_ (by omega)
        repeat' first | refine st (by exact rfl) ?_ | fail
        refine cs [0] (by exact rfl) ix ?_
        repeat' first | refine st (by exact rfl) ?_ | fail
        rw [wrap_succ (by omega)]
        exact toL (hn2 _ (freeF z x (pH locals hid) o, k + 1) ⟨hlt, by dsimp only; rw [hk2, freeA_at hx], by dsimp only; omega⟩ (by dsimp only; omega) le_of)
      · have hkn : rs.length ≤ k := by have := of_decide_eq_false hb3; omega
        rw [List.drop_eq_nil_of_le hkn, freeA] at hk2
        repeat' first | refine st (by exact rfl) ?_ | fail
        refine Z60 ?_
        repeat' first | refine st (by exact rfl) ?_ | fail
        rw [hk2]
        exact Y4
  · have hL : ¬ loopC op num ks.length = true := by
     rw [← loop_eq op num ks.length hkl]
     rw [hlen] at hb
     exact fun h => by rw [h] at hb; cases hb
    rw [freeF_kids h4 hL]
    repeat' first | refine st (by exact rfl) ?_ | fail
    refine gLo (fun y : (List Lc × List ByteArray) × Nat => ⟨[(2, .d (.sl (locals.map .str))), (3, .ref 0 0), (5, .ref 1 0), (8, .fn (.func 58) [] [.ref 1 0]), (138, .d (.sl (ks.map Tr.d))), (139, .d (.int .i64 ((ks.map Tr.d).length : Int))), (140, .d (.int .i64 (y.2 : Int)))], [[.osl 1 (y.1.2.map .str)], [.d (locD y.1.1)]]⟩) (fun y => ks.length - y.2) (fun y => y.2 ≤ ks.length ∧ freeL (freeF z) ks (pH locals hid) out = freeL (freeF z) (ks.drop y.2) (pH locals y.1.1) y.1.2 ∧ y.1.2.length + Tr.sizes (ks.drop y.2) ≤ 1000000) ((hid, out), 0) ⟨Nat.zero_le _, rfl, by rw [List.drop_zero]; dsimp only; omega⟩ le_of (fun y hy Q2 hn2 he2 hr2 hp2 => ?_)
    obtain ⟨⟨l, o⟩, k⟩ := y
    obtain ⟨hk1, hk2, hk3⟩ := hy
    dsimp only at hk1 hk2 hk3
    repeat' first | refine st (by exact rfl) ?_ | fail
    refine cd (by exact rfl) (fun hb3 => ?_) (fun hb3 => ?_)
    · have hlt : k < ks.length := by have := oR hb3; omega
      obtain ⟨x, hx⟩ : ∃ x, ks[k]? = some x := ⟨_, gE hlt⟩
      have hxd := Tr.ds_get hx
      have s4 := sizes_at hx
      have l4 := free_len z x (pH locals l) o
      have ix := ih x (hkd x (mG hx)) l o (by omega)
      obtain ⟨xop, xnm, xnu, xks, hxa⟩ := x.d_agg
      obtain ⟨hxo, hxn⟩ := d_op hxa
      rw [hxa] at hxd ix
      rw [freeL_at hx, hxo, hxn] at hk2
      repeat' first | refine st (by exact rfl) ?_ | fail
      refine el (by exact rfl) hxd ?_ (by omega)
      repeat' first | refine st (by exact rfl) ?_ | fail
      refine cs [0] (by exact rfl) ix ?_
      repeat' first | refine st (by exact rfl) ?_ | fail
      by_cases h50 : xop = 50
      · rw [if_pos h50] at hk2
        refine ct (by exact rfl) ?_ (by simpa using h50)
        repeat' first | refine st (by exact rfl) ?_ | fail
        refine cs [1] (by exact rfl) (c58h xnm l) (hsel := fun b hb => by simp only [List.mem_cons, List.not_mem_nil, or_false] at hb; subst hb; show 1 < 3; decide) ?_
        repeat' first | refine st (by exact rfl) ?_ | fail
        rw [wrap_succ (by omega)]
        exact toL (hn2 _ ((hidV xnm :: l, freeF z x (pH locals l) o), k + 1) ⟨hlt, by dsimp only; rw [hk2, pH_hide]; rfl, by dsimp only; omega⟩ (by dsimp only; omega) le_of)
      · rw [if_neg h50] at hk2
        refine cf (by exact rfl) ?_ (by simpa using h50)
        repeat' first | refine st (by exact rfl) ?_ | fail
        rw [wrap_succ (by omega)]
        exact toL (hn2 _ ((l, freeF z x (pH locals l) o), k + 1) ⟨hlt, hk2, by dsimp only; omega⟩ (by dsimp only; omega) le_of)
    · have hkn : ks.length ≤ k := by have := of_decide_eq_false hb3; omega
      rw [List.drop_eq_nil_of_le hkn, freeL] at hk2
      repeat' first | refine st (by exact rfl) ?_ | fail
      refine Z60 ?_
      repeat' first | refine st (by exact rfl) ?_ | fail
      rw [hk2]
      exact Y4
theorem c11 (t : Tr) (ht : t.size ≤ 1000000) (locals : List ByteArray) (hll : locals.length ≤ 1000000) : Pf Try.prog 11 [t.d, .sl (locals.map .str)] (.d (.sl ((freeF t.size t (hasB locals) []).map .str))) := by
 have q := c37n locals hll t.size t (Nat.le_refl _) [] [] (by simpa using ht)
 rw [pH_nil] at q
 rw [t_eta t] at q ⊢
 refine pfb Try.func11 Try.ntmps11 Try.results11 (fun S0 O0 w0 m0 hm0 => ?_)
 repeat' (fail_if_success refine fz true (s := ⟨_, [_]⟩) (by exact rfl) ?_); first | refine st (by exact rfl) ?_ | fail
 refine Z32 ?_
 repeat' first | refine st (by exact rfl) ?_ | fail
 refine gLe (s' := ⟨[(7, .d (.sl (locals.map .str))), (6, .d (.agg [.int .i64 t.op, .str t.nm, .int .i64 t.nu, .sl (t.kids.map Tr.d)])), (5, .ref 0 0)], [[.osl 1 []]]⟩) le_of ?_ rfl
 refine cs [0] (by exact rfl) q ?_
 repeat' first | refine st (by exact rfl) ?_ | fail
 exact Y1
theorem c62 (l : List ByteArray) (s : ByteArray) (hl : l.length ≤ 1000000) : Pf Try.prog 62 [.sl (l.map .str), .str s] (.d (.sl ((if hasB l s = true then l else l ++ [s]).map .str))) := by
 have q := c176 l s (by omega)
 have hlen : (l.map D.str).length = l.length := List.length_map ..
 refine pfb Try.func62 Try.ntmps62 Try.results62 (fun S0 O0 w0 m0 hm0 => ?_)
 repeat' first | refine st (by exact rfl) ?_ | refine cl (by exact rfl) q ?_ | fail
 by_cases h : hasB l s = true
 · rw [if_pos h]
   refine ct (by exact rfl) ?_ h
   repeat' first | refine st (by exact rfl) ?_ | fail
   exact Y1
 · rw [if_neg h]
   refine cf (by exact rfl) ?_ (eq_false_of_ne_true h)
   rcases l with _ | ⟨x, r⟩
   · repeat' first | refine st (by exact rfl) ?_ | refine bs (by exact rfl) ?_ | refine ap0 (by exact rfl) ?_ | refine ap (by exact rfl) ?_ | fail
     exact Y1
   · simp only [List.length_cons] at hl
     have hk1 : ∀ y ∈ (x :: r).map D.str, y.cells.length = 1 := fun y hy => by
      obtain ⟨z, _, rfl⟩ := List.mem_map.1 hy
      rfl
     repeat' first | refine st (by exact rfl) ?_ | refine bs (by exact rfl) ?_ | refine ap (by exact rfl) ?_ (hk := hk1) | refine ap (by exact rfl) ?_ | fail
     exact en (by exact rfl) (by simp)
theorem c63w (l : List ByteArray) (s : ByteArray) (hl : l.length ≤ 1000000) : Pf Try.prog 63 [.sl (l.map .str), .str s] (.d (.sl ((withoutL l s).map .str))) := by
 have hlen : (l.map D.str).length = l.length := List.length_map ..
 refine pfb Try.func63 Try.ntmps63 Try.results63 (fun S0 O0 w0 m0 hm0 => ?_)
 repeat' first | refine st (by exact rfl) ?_ | refine bs (by exact rfl) ?_ | fail
 refine gLo (fun y : List D × Nat => ⟨[(0, .d (.sl (l.map .str))), (1, .d (.str s)), (5, .osl 1 y.1), (6, .d (.int .i64 (y.2 : Int)))], []⟩) (fun y => l.length - y.2) (fun y => y.2 ≤ l.length ∧ y.1 = (withoutL (l.take y.2) s).map .str ∧ y.1.length ≤ y.2) ([], 0) ⟨Nat.zero_le _, rfl, Nat.le_refl _⟩ le_of (fun y hy Q' hn he hr hp => ?_)
 obtain ⟨xs, z⟩ := y
 obtain ⟨hz, hx, hxl⟩ := hy
 dsimp only at hz hx hxl
 repeat' first | refine st (by exact rfl) ?_ | fail
 refine cd (by exact rfl) (fun hb => ?_) (fun hb => ?_)
 · have hlt : z < l.length := by have := oR hb; omega
   obtain ⟨x, hgx⟩ : ∃ x, l[z]? = some x := ⟨_, gE hlt⟩
   have hst : withoutL (l.take (z + 1)) s = withoutL (l.take z) s ++ (if x = s then [] else [x]) := by
    unfold withoutL
    rw [List.take_add_one, hgx]
    simp only [Option.toList_some, List.filter_append]
    by_cases h : x = s
    · rw [if_pos h]; simp [h]
    · rw [if_neg h]; simp [h]
   repeat' first | refine st (by exact rfl) ?_ | fail
   refine el (by exact rfl) (strs_get hgx) ?_ (by omega)
   repeat' first | refine st (by exact rfl) ?_ | fail
   refine cd (by exact rfl) (fun hb2 => ?_) (fun hb2 => ?_)
   · have hne : x ≠ s := by simpa using hb2
     repeat' first | refine st (by exact rfl) ?_ | fail
     refine el (by exact rfl) (strs_get hgx) ?_ (by omega)
     repeat' first | refine st (by exact rfl) ?_ | refine bs (by exact rfl) ?_ | refine ap (by exact rfl) ?_ | fail
     rw [wrap_succ (by omega)]
     exact toL (hn _ (xs ++ [.str x], z + 1) ⟨hlt, by dsimp only; rw [hst, if_neg hne, List.map_append, hx]; rfl, by dsimp only; rw [List.length_append]; simp; omega⟩ (by dsimp only; omega) le_of)
   · have hne : x = s := by simpa using hb2
     repeat' first | refine st (by exact rfl) ?_ | fail
     rw [wrap_succ (by omega)]
     exact toL (hn _ (xs, z + 1) ⟨hlt, by dsimp only; rw [hst, if_pos hne, List.append_nil, hx], by dsimp only; omega⟩ (by dsimp only; omega) le_of)
 · have hlt : l.length ≤ z := by have := of_decide_eq_false hb; omega
   rw [List.take_of_length_le hlt] at hx
   repeat' first | refine st (by exact rfl) ?_ | fail
   refine toL (he _ _ ?_)
   repeat' first | refine st (by exact rfl) ?_ | fail
   exact en (by exact rfl) (by rw [hx])
theorem without_len (l : List ByteArray) (s : ByteArray) : (withoutL l s).length ≤ l.length := List.length_filter_le ..
set_option maxHeartbeats 8000000 in
theorem c40n : ∀ (z : Nat) (t : Tr), t.size ≤ z → ∀ (locals out : List ByteArray), locals.length ≤ 1000000 → out.length + t.size ≤ 1000000 →
 Pf Try.prog 40 [t.d, .sl (locals.map .str), .sl (out.map .str)] (.d (.sl ((freeF z t (hasB locals) out).map .str))) := by
 intro z
 induction z with
 | zero => intro t h; exact absurd t.size_pos (by omega)
 | succ z ih =>
  intro t hsz locals out hll hB
  obtain ⟨op, nm, num, ks⟩ := t
  have hkd : ∀ k ∈ ks, k.size ≤ z := fun k hk => by
   have := Tr.size_mem hk
   rw [Tr.size] at hsz
   omega
  rw [Tr.size] at hB
  have hkl : ks.length ≤ 1000000 := by
   have := Tr.len_sizes ks
   omega
  have hlen : (ks.map Tr.d).length = ks.length := List.length_map ..
  rw [Tr.d_mk]
  refine pfb Try.func40 Try.ntmps40 Try.results40 (fun S0 O0 w0 m0 hm0 => ?_)
  repeat' first | refine fz true (s := ⟨_, [_]⟩) (by exact rfl) ?_ | refine st (by exact rfl) ?_ | fail
  by_cases h4 : op = 4
  · subst h4
    rw [freeF_name]
    refine ct (by exact rfl) ?_ rfl
    repeat' first | refine st (by exact rfl) ?_ | refine cl (by exact rfl) (c176 locals nm (by omega)) ?_ | fail
    unfold addP
    by_cases h1 : hasB locals nm = true
    · rw [if_pos h1]
      refine ct (by exact rfl) ?_ h1
      repeat' first | refine st (by exact rfl) ?_ | refine cl (by exact rfl) (c62 out nm (by omega)) ?_ | fail
      exact Y1
    · rw [if_neg h1]
      refine cf (by exact rfl) ?_ (eq_false_of_ne_true h1)
      repeat' first | refine st (by exact rfl) ?_ | fail
      exact Y1
  refine cf (by exact rfl) ?_ (by simpa using h4)
  repeat' first | refine st (by exact rfl) ?_ | fail
  refine cd (by exact rfl) (fun hb => ?_) (fun hb => ?_)
  · have hL : loopC op num ks.length = true := by
     rw [← loop_eq op num ks.length hkl]
     rw [hlen] at hb
     exact hb
    obtain ⟨n0, n2, nl⟩ := loop_facts hL
    have hw1 : IntKind.i64.wrap (num + 1) = num + 1 := wrap_i64 (by omega) (by omega)
    have hw2 : IntKind.i64.wrap (num + 2) = num + 2 := wrap_i64 (by omega) (by omega)
    obtain ⟨e, he⟩ : ∃ e, ks[num.toNat]? = some e := ⟨_, gE (by omega)⟩
    obtain ⟨bo, hbo⟩ : ∃ bo, ks[num.toNat + 1]? = some bo := ⟨_, gE (by omega)⟩
    rw [freeF_loop h4 hL he hbo]
    have s1 := sizes_at he
    have s2 := sizes_at hbo
    rw [show num.toNat + 1 + 1 = num.toNat + 2 from rfl] at s2
    have s3 := sizes_drop_le ks num.toNat
    have l1 := free_len z e (hasB locals) out
    have ie := ih e (hkd e (mG he)) locals out hll (by omega)
    generalize freeF z e (hasB locals) out = o1 at *
    have hed := Tr.ds_get he
    have hbd := Tr.ds_get hbo
    obtain ⟨eop, enm', enu, eks, hea⟩ := e.d_agg
    rw [hea] at ie hed
    obtain ⟨bop, bnm, bnu, bks, hba⟩ := bo.d_agg
    repeat' first | refine st (by exact rfl) ?_ | fail
    refine el (by exact rfl) hed ?_ n0
    repeat' first | refine st (by exact rfl) ?_ | refine cl (by exact rfl) ie ?_ | fail
    refine gLo (fun y : List ByteArray × Nat => ⟨[(1, .d (.sl (locals.map .str))), (2, .d (.sl (o1.map .str))), (3, .d (.ptr (.agg [.int .i64 op, .str nm, .int .i64 num, .sl (ks.map Tr.d)]))), (7, .d (.sl (y.1.map .str))), (8, .d (.int .i64 (y.2 : Int)))], []⟩) (fun y => num.toNat - y.2) (fun y => y.2 ≤ num.toNat ∧ hasB y.1 = hideA (hasB locals) (ks.take y.2) ∧ y.1.length ≤ 1000000) (locals, 0) ⟨Nat.zero_le _, rfl, hll⟩ le_of (fun y hy Q' hn he' hr hp => ?_)
    obtain ⟨l, k⟩ := y
    obtain ⟨hk1, hk2, hk3⟩ := hy
    dsimp only at hk1 hk2 hk3
    repeat' first | refine st (by exact rfl) ?_ | fail
    refine cd (by exact rfl) (fun hb2 => ?_) (fun hb2 => ?_)
    · have hlt : k < num.toNat := by have := oR hb2; omega
      obtain ⟨x, hx⟩ : ∃ x, ks[k]? = some x := ⟨_, gE (by omega)⟩
      have hxd := Tr.ds_get hx
      obtain ⟨xop, xnm, xnu, xks, hxa⟩ := x.d_agg
      obtain ⟨_, hxn⟩ := d_op hxa
      rw [hxa] at hxd
      have wl := without_len l xnm
      repeat' first | refine st (by exact rfl) ?_ | fail
      refine el (by exact rfl) hxd ?_ (by omega)
      repeat' first | refine st (by exact rfl) ?_ | refine cl (by exact rfl) (c63w l xnm hk3) ?_ | fail
      rw [wrap_succ (by omega)]
      exact toL (hn _ (withoutL l xnm, k + 1) ⟨hlt, by dsimp only; rw [without_hide, hk2, take_snoc hx, hideA_snoc, hxn], by dsimp only; omega⟩ (by dsimp only; omega) le_of)
    · have hkn : k = num.toNat := by have := of_decide_eq_false hb2; omega
      subst hkn
      have ib := ih bo (hkd bo (mG hbo)) l o1 hk3 (by omega)
      rw [hk2, hba] at ib
      have l2 := free_len z bo (hideA (hasB locals) (ks.take num.toNat)) o1
      generalize freeF z bo (hideA (hasB locals) (ks.take num.toNat)) o1 = o2 at *
      have hbd' : (ks.map Tr.d)[(IntKind.i64.wrap (num + 1)).toNat]? = some (.agg [.int .i64 bop, .str bnm, .int .i64 bnu, .sl (List.map Tr.d bks)]) := by
       rw [hw1, show (num + 1).toNat = num.toNat + 1 from by omega, hbd, hba]
      have hrl := Nat.le_trans (Nat.le_of_eq (List.length_drop (i := num.toNat + 2) (l := ks))) (Nat.sub_le _ _)
      repeat' first | refine st (by exact rfl) ?_ | fail
      refine toL (he' _ _ ?_)
      repeat' first | refine st (by exact rfl) ?_ | fail
      refine el (by exact rfl) hbd' ?_ (by rw [hw1]; omega)
      repeat' first | refine st (by exact rfl) ?_ | refine cl (by exact rfl) ib ?_ | fail
      rw [hw2, show num + 2 = ((num.toNat + 2 : Nat) : Int) from by omega]
      refine gLo (fun y : List ByteArray × Nat => ⟨[(1, .d (.sl (locals.map .str))), (2, .d (.sl (y.1.map .str))), (3, .d (.ptr (.agg [.int .i64 op, .str nm, .int .i64 num, .sl (ks.map Tr.d)]))), (9, .d (.int .i64 ((num.toNat + 2 + y.2 : Nat) : Int)))], []⟩) (fun y => ks.length - y.2) (fun y => num.toNat + 2 + y.2 ≤ ks.length ∧ freeA (freeF z) (ks.drop (num.toNat + 2)) (hasB locals) o2 = freeA (freeF z) (ks.drop (num.toNat + 2 + y.2)) (hasB locals) y.1 ∧ y.1.length + Tr.sizes (ks.drop (num.toNat + 2 + y.2)) ≤ 1000000) (o2, 0) ⟨by dsimp only; omega, rfl, by dsimp only [Nat.add_zero]; omega⟩ le_of (fun y hy Q2 hn2 he2 hr2 hp2 => ?_)
      obtain ⟨o, k⟩ := y
      obtain ⟨hk1, hk2, hk3⟩ := hy
      dsimp only at hk1 hk2 hk3
      repeat' first | refine st (by exact rfl) ?_ | fail
      refine cd (by exact rfl) (fun hb3 => ?_) (fun hb3 => ?_)
      · have hlt : num.toNat + 2 + k < ks.length := by have := oR hb3; omega
        obtain ⟨x, hx⟩ : ∃ x, ks[num.toNat + 2 + k]? = some x := ⟨_, gE hlt⟩
        have hxd := Tr.ds_get hx
        have s4 := sizes_at hx
        have l4 := free_len z x (hasB locals) o
        have ix := ih x (hkd x (mG hx)) locals o hll (by omega)
        obtain ⟨xop, xnm, xnu, xks, hxa⟩ := x.d_agg
        rw [hxa] at hxd ix
        repeat' first | refine st (by exact rfl) ?_ | fail
        refine el (by exact rfl) hxd ?_ (by omega)
        repeat' first | refine st (by exact rfl) ?_ | refine cl (by exact rfl) ix ?_ | fail
        rw [wrap_succ (by omega)]
        exact toL (hn2 _ (freeF z x (hasB locals) o, k + 1) ⟨by dsimp only; omega, by dsimp only; rw [hk2, freeA_at hx]; rfl, by dsimp only; rw [show num.toNat + 2 + (k + 1) = num.toNat + 2 + k + 1 from rfl]; omega⟩ (by dsimp only; omega) le_of)
      · have hkn : ks.length ≤ num.toNat + 2 + k := by have := of_decide_eq_false hb3; omega
        rw [List.drop_eq_nil_of_le hkn, freeA] at hk2
        repeat' first | refine st (by exact rfl) ?_ | fail
        refine Z60 ?_
        repeat' first | refine st (by exact rfl) ?_ | fail
        rw [hk2]
        exact Y1
  · have hL : ¬ loopC op num ks.length = true := by
     rw [← loop_eq op num ks.length hkl]
     rw [hlen] at hb
     exact fun h => by rw [h] at hb; cases hb
    rw [freeF_kids h4 hL]
    repeat' first | refine st (by exact rfl) ?_ | fail
    refine gLo (fun y : (List ByteArray × List ByteArray) × Nat => ⟨[(2, .d (.sl (y.1.2.map .str))), (3, .d (.ptr (.agg [.int .i64 op, .str nm, .int .i64 num, .sl (ks.map Tr.d)]))), (10, .d (.sl (y.1.1.map .str))), (11, .d (.int .i64 (y.2 : Int)))], []⟩) (fun y => ks.length - y.2) (fun y => y.2 ≤ ks.length ∧ freeL (freeF z) ks (hasB locals) out = freeL (freeF z) (ks.drop y.2) (hasB y.1.1) y.1.2 ∧ y.1.2.length + Tr.sizes (ks.drop y.2) ≤ 1000000 ∧ y.1.1.length ≤ 1000000) ((locals, out), 0) ⟨Nat.zero_le _, rfl, by rw [List.drop_zero]; dsimp only; omega, hll⟩ le_of (fun y hy Q2 hn2 he2 hr2 hp2 => ?_)
    obtain ⟨⟨l, o⟩, k⟩ := y
    obtain ⟨hk1, hk2, hk3, hk4⟩ := hy
    dsimp only at hk1 hk2 hk3 hk4
    repeat' first | refine st (by exact rfl) ?_ | fail
    refine cd (by exact rfl) (fun hb3 => ?_) (fun hb3 => ?_)
    · have hlt : k < ks.length := by have := oR hb3; omega
      obtain ⟨x, hx⟩ : ∃ x, ks[k]? = some x := ⟨_, gE hlt⟩
      have hxd := Tr.ds_get hx
      have s4 := sizes_at hx
      have l4 := free_len z x (hasB l) o
      have ix := ih x (hkd x (mG hx)) l o hk4 (by omega)
      obtain ⟨xop, xnm, xnu, xks, hxa⟩ := x.d_agg
      obtain ⟨hxo, hxn⟩ := d_op hxa
      rw [hxa] at hxd ix
      rw [freeL_at hx, hxo, hxn] at hk2
      have wl := without_len l xnm
      repeat' first | refine st (by exact rfl) ?_ | fail
      refine el (by exact rfl) hxd ?_ (by omega)
      repeat' first | refine st (by exact rfl) ?_ | refine cl (by exact rfl) ix ?_ | refine el (by exact rfl) hxd ?_ (by omega) | fail
      by_cases h50 : xop = 50
      · rw [if_pos h50] at hk2
        refine ct (by exact rfl) ?_ (by simpa using h50)
        repeat' first | refine st (by exact rfl) ?_ | refine el (by exact rfl) hxd ?_ (by omega) | refine cl (by exact rfl) (c63w l xnm hk4) ?_ | fail
        rw [wrap_succ (by omega)]
        exact toL (hn2 _ ((withoutL l xnm, freeF z x (hasB l) o), k + 1) ⟨hlt, by dsimp only; rw [hk2, without_hide], by dsimp only; omega, by dsimp only; omega⟩ (by dsimp only; omega) le_of)
      · rw [if_neg h50] at hk2
        refine cf (by exact rfl) ?_ (by simpa using h50)
        repeat' first | refine st (by exact rfl) ?_ | fail
        rw [wrap_succ (by omega)]
        exact toL (hn2 _ ((l, freeF z x (hasB l) o), k + 1) ⟨hlt, hk2, by dsimp only; omega, hk4⟩ (by dsimp only; omega) le_of)
    · have hkn : ks.length ≤ k := by have := of_decide_eq_false hb3; omega
      rw [List.drop_eq_nil_of_le hkn, freeL] at hk2
      repeat' first | refine st (by exact rfl) ?_ | fail
      refine Z60 ?_
      repeat' first | refine st (by exact rfl) ?_ | fail
      rw [hk2]
      exact Y1
theorem c18f (t : Tr) (ht : t.size ≤ 1000000) (locals : List ByteArray) (hll : locals.length ≤ 1000000) : Pf Try.prog 18 [t.d, .sl (locals.map .str)] (.d (.sl ((freeF t.size t (hasB locals) []).map .str))) := by
 have q := c40n t.size t (Nat.le_refl _) locals [] hll (by simpa using ht)
 rw [t_eta t] at q ⊢
 refine pfb Try.func18 Try.ntmps18 Try.results18 (fun S0 O0 w0 m0 hm0 => ?_)
 repeat' first | refine st (by exact rfl) ?_ | refine cl (by exact rfl) q ?_ | fail
 exact Y1
theorem c17e (a : List ByteArray) (ha : a.length ≤ 1000000) : Pf Try.prog 17 [.sl (a.map .str), .sl (a.map .str)] (.d (.bool true)) := by
 have hlen : (a.map D.str).length = a.length := List.length_map ..
 refine pfb Try.func17 Try.ntmps17 Try.results17 (fun S0 O0 w0 m0 hm0 => ?_)
 repeat' first | refine st (by exact rfl) ?_ | fail
 refine cf (by exact rfl) ?_ (by simp)
 repeat' first | refine st (by exact rfl) ?_ | fail
 refine gLo (fun y : Nat => ⟨[(0, .d (.sl (a.map .str))), (1, .d (.sl (a.map .str))), (12, .d (.int .i64 ((a.map D.str).length : Int))), (13, .d (.int .i64 (y : Int)))], []⟩) (fun y => a.length - y) (fun y => y ≤ a.length) 0 (Nat.zero_le _) le_of (fun y hy Q2 hn2 he2 hr2 hp2 => ?_)
 repeat' first | refine st (by exact rfl) ?_ | fail
 refine cd (by exact rfl) (fun hb => ?_) (fun hb => ?_)
 · have hlt : y < a.length := by have := oR hb; omega
   obtain ⟨x, hx⟩ : ∃ x, a[y]? = some x := ⟨_, gE hlt⟩
   have hxd := strs_get hx
   repeat' first | refine st (by exact rfl) ?_ | fail
   refine Z55 ?_
   iterate 2 refine ov (hc := ?_)
   refine oi (hd := hxd) (hc := ?_)
   iterate 3 refine ov (hc := ?_)
   refine oi (hd := hxd) (hc := ?_)
   iterate 2 refine ov (hc := ?_)
   refine Z56 ?_
   repeat' first | refine st (by exact rfl) ?_ | fail
   refine cf (by exact rfl) ?_ (by simp)
   repeat' first | refine st (by exact rfl) ?_ | fail
   rw [wrap_succ (by omega)]
   exact toL (hn2 _ (y + 1) hlt (by omega) le_of)
 · repeat' first | refine st (by exact rfl) ?_ | fail
   refine Z60 ?_
   repeat' first | refine st (by exact rfl) ?_ | fail
   exact Y1
theorem c16l (s : ByteArray) : Pf Try.prog 16 [.str s] (.d (.bool (decide ((s.size : Int) > 100)))) := by
 refine pfb Try.func16 Try.ntmps16 Try.results16 (fun S0 O0 w0 m0 hm0 => ?_)
 repeat' first | refine st (by exact rfl) ?_ | fail
 exact Y1
end
section
theorem c4 (t : Tr) (hok : t.Ok) (locals : List ByteArray) (hll : locals.length ≤ 140737488355328) : Pf Try.prog 4 [t.d, .sl (locals.map .str)] (.d (.bool true)) := by
 have q6 := c15 t hok 300 (by decide) (by decide)
 have hL := longN_facts (t := t) (m := 300) (by decide) (by decide)
 have q15 := c230 locals 16 [] [] (fun s => decide ((s.size : Int) > 100)) hll (fun s _ => c16l s)
 have q11 := fun h1 h2 => c11 t h1 locals h2
 have q18 := fun h1 h2 => c18f t h1 locals h2
 have q17 := fun h => c17e (freeF t.size t (hasB locals) []) h
 have hfl := free_len t.size t (hasB locals) []
 rw [List.length_nil, Nat.zero_add] at hfl
 have hlen : (locals.map D.str).length = locals.length := List.length_map ..
 generalize freeF t.size t (hasB locals) [] = fr at *
 generalize t.longN 300 = lo at *
 generalize (locals.any fun s => decide ((s.size : Int) > 100)) = an at *
 rw [t_eta t] at q6 q11 q18 ⊢
 refine pfb Try.func4 Try.ntmps4 Try.results4 (fun S0 O0 w0 m0 hm0 => ?_)
 repeat' first | refine fz true (s := ⟨_, [_]⟩) (by exact rfl) ?_ | refine st (by exact rfl) ?_ | refine cl (by exact rfl) q6 ?_ | refine clg (by exact rfl) (fun _ => q15) ?_ | fail
 refine cd (by exact rfl) (fun hb => ?_) (fun hb => ?_)
 · repeat' first | refine st (by exact rfl) ?_ | refine cl (by exact rfl) c17 ?_ | fail
   exact Y1
 · have h1 : lo = false := by cases lo <;> simp_all
   have h2 : ¬ (((locals.map D.str).length : Int) > 20) := by
    intro h
    rw [h1] at hb
    simp only [Bool.false_or, Bool.or_eq_false_iff, decide_eq_false_iff_not] at hb
    exact hb.1 h
   have hsz := hL h1
   replace q11 := q11 hsz (by omega)
   replace q18 := q18 hsz (by omega)
   replace q17 := q17 (by omega)
   repeat' first | refine st (by exact rfl) ?_ | fail
   refine Z55 ?_
   iterate 2 refine ov (hc := ?_)
   refine oc (hcl := q11) (hc := ?_)
   iterate 2 refine ov (hc := ?_)
   refine oc (hcl := q18) (hc := ?_)
   refine oc (hcl := q17) (hc := ?_)
   refine Z11 ?_
   refine ocg (hcl := fun _ => c17) (hc := ?_)
   iterate 2 refine ov (hc := ?_)
   refine Z56 ?_
   repeat' first | refine st (by exact rfl) ?_ | fail
   exact Y1
end
end Go.Proofs.Ytklkbfpjimeaoaa
