import Derived.Test.YtoonleefemkalaaDoorM30
import Derived.Test.YtoonleefemkalaaDoorM27
import Derived.Test.YtoonleefemkalaaDoorM24
/- Contracts of functions. Conditions: none. -/
set_option linter.unusedSimpArgs false
set_option linter.unusedVariables false
set_option maxRecDepth 20000
namespace Go.Proofs.YtoonleefemkalaaDoor
open Go Go.Proofs.YtoonleefemkalaaDoor.E
section
theorem le200b {c : Ch} (h : chkC c = false) : c.bak.length ≤ 200 := by
 unfold chkC at h
 simp only [Bool.or_eq_false_iff] at h
 have h6 := h.2
 unfold chk5 at h6
 simp only [Bool.or_eq_false_iff, decide_eq_false_iff_not] at h6
 omega
theorem J5 {A : Prop} (h : A := by simp only [List.set_cons_zero, List.set_cons_succ, nrefM, PV.nrefs, PV.nref, nrefs_flat, Bool.or_true, Bool.true_and, Bool.and_true] <;> rfl) : A := h
set_option maxRecDepth 100000 in
theorem c23_3b (c : Ch) (i : Nat) (at_ : Int) {x : ByteArray} (hs : c.Sm) (hkf : chkC c = false) (hx : c.bak[i]? = some x) : ActR c 3 true (i : Int) at_ (if c.bak.length = 200 then (zeroC, 5) else ({ c with bak := c.bak ++ [x] }, 0)) := by
 have hi : i < c.bak.length := (lG hx)
 have hr := rt_of hs hkf
 have hrcv := rcv_of hs hr
 have hxD := sD_get hx
 have hc := hs.few
 have hc' := hc
 obtain ⟨h0, h1, h2, h3, h4, h5⟩ := hc'
 have q17 := c17 c (by omega) (by omega) (by omega) (by omega) (by omega) (by omega)
 have q42 := c42 c hc
 rw [if_neg (by rw [hkf]; decide)] at q17
 unfold ActR acD
 unfold Ch.d at q17 q42 ⊢
 refine pfb Tryd.func23 Tryd.ntmps23 Tryd.results23 (fun S0 O0 w0 m0 hm0 => ?_)
 iterate 4 refine s_ ?_
 refine Z8 ?_
 repeat' first | refine s_ ?_ | refine c_ q17 ?_ | fail
 have h200 := le200b hkf
 refine Z1 ?_
 repeat' first | refine s_ ?_ | fail
 refine Z1 ?_
 repeat' first | refine s_ ?_ | fail
 refine cn (by exact rfl) q42 (r' := .agg (ChA c p0 4 5 7 8 9 6)) (mem' := (chD c :: zcel :: unk 10 :: unk 10 :: ChRr c p0)) ?_ rfl ?_
 rotate_left
 · rw [List.map_append, ChRr_rens]; rfl
 repeat' first | refine s_ ?_ | fail
 refine kp [(2, .ref 0 0), (3, .d (.ptr (.agg [.int .i64 3, .bool true, .int .i64 (i : Int), .int .i64 at_]))), (4, .ref 1 0), (5, .d (.int .i64 0)), (29, .d (.bool false))] ⟨rfl, rfl, rfl, rfl, rfl, trivial⟩ ?_
 refine Z0 ?_
 refine gK_b (row_k (by simp) (sD_k _) (by simp)) (row_k (by simp) (sD_k _) (by simp)) (row_k (by simp) (pD_k _) (by simp)) (row_k (by simp) (sD_k _) (by simp)) (row_k (by simp) (sD_k _) (by simp)) hm0 ?_
 refine Z1 ?_
 repeat' first | refine s_ ?_ | fail
 refine Z16 ?_
 repeat' first | refine s_ ?_ | fail
 refine cf (by exact rfl) ?_ (by rw [sD_len]; simp; omega)
 repeat' first | refine s_ ?_ | fail
 refine gq (p := .ref 9 (rlo 1 [] (sD c.bak) [] + ((i : Int)).toNat * 1)) (by exact rfl) (fun _ ht => by exact Q_rowIndex (n := (sD c.bak).length) rfl rfl (by omega) (by rw [sD_len]; exact_mod_cast hi) u35 sz9 ht) ?_
 refine gq (p := .d (.str x)) (by exact rfl) (fun _ ht => by exact Q_rowLeaf (pre := []) (xs := sD c.bak) (post := []) (i := i) (f := 0) (k := 1) rfl rfl (by rw [rlo_ne (sD_ne hi)]; rfl) hxD rfl (row_k (by simp) (sD_k _) (by simp)) u9 rfl rfl ht) ?_
 repeat' first | refine s_ ?_ | fail
 refine Z1 ?_
 repeat' first | refine s_ ?_ | fail
 refine Z1 ?_
 repeat' first | refine s_ ?_ | fail
 refine Z16 ?_
 repeat' first | refine s_ ?_ | fail
 refine d_ (fun hb => ?_) (fun hb => ?_)
 · have hl : c.bak.length = 200 := by have := oR hb; rw [sD_len] at this; omega
   simp only [hl, if_true]
   repeat' first | refine s_ ?_ | fail
   exact e_
 have hl : ¬ c.bak.length = 200 := by have := of_decide_eq_false hb; rw [sD_len] at this; omega
 simp only [hl, if_false]
 repeat' first | refine s_ ?_ | refine bs (by exact rfl) ?_ | fail
 refine gCell 0 9 rfl rfl ?_ rfl rfl
 refine gApG (pre := []) (xs := sD c.bak) (post := []) (ys := [.str x]) rfl rfl rfl rfl rfl (by rw [hm0]; exact Nat.zero_le _) (by exact J5) rfl (by simp) (row_k (by simp) (sD_k _) (by simp)) (by simp [D.cells]) (by decide) u35 inf9 rfl (by simp [Value.cells, Value.oneCell']) (by rw [sD_len]; unfold lim; simp; omega) (by rw [sD_len]; unfold lim; simp; omega) (Nat.le_of_ble_eq_true rfl) (fun a b hab => ?_)
 rw [← List.length_append, sD_snoc]
 rw [sD_snoc] at hab
 repeat' first | refine s_ ?_ | fail
 refine Z16 ?_
 repeat' first | refine s_ ?_ | fail
 refine kp [(2, .ref 0 0), (3, .d (.ptr (.agg [.int .i64 3, .bool true, .int .i64 (i : Int), .int .i64 at_]))), (4, .ref 1 0), (126, .d (.bool false))] ⟨rfl, rfl, rfl, rfl, trivial⟩ ?_
 refine gE_b (c := { c with bak := c.bak ++ [x] }) hab hm0 ?_
 refine Z1 ?_
 repeat' first | refine s_ ?_ | fail
 refine Z1 ?_
 repeat' first | refine s_ ?_ | fail
 exact e_
set_option maxRecDepth 100000 in
theorem c23_4b (c : Ch) (i : Nat) (at_ : Int) {x : ByteArray} (hs : c.Sm) (hkf : chkC c = false) (hx : c.bak[i]? = some x) : ActR c 4 true (i : Int) at_ (if at_ < 0 ∨ at_ ≥ (x.size : Int) then (zeroC, 4) else ({ c with bak := c.bak.set i (x.extract 0 at_.toNat) }, 0)) := by
 have hi : i < c.bak.length := (lG hx)
 have hr := rt_of hs hkf
 have hrcv := rcv_of hs hr
 have hxD := sD_get hx
 have hc := hs.few
 have hc' := hc
 obtain ⟨h0, h1, h2, h3, h4, h5⟩ := hc'
 have q17 := c17 c (by omega) (by omega) (by omega) (by omega) (by omega) (by omega)
 have q42 := c42 c hc
 rw [if_neg (by rw [hkf]; decide)] at q17
 unfold ActR acD
 unfold Ch.d at q17 q42 ⊢
 refine pfb Tryd.func23 Tryd.ntmps23 Tryd.results23 (fun S0 O0 w0 m0 hm0 => ?_)
 iterate 4 refine s_ ?_
 refine Z8 ?_
 repeat' first | refine s_ ?_ | refine c_ q17 ?_ | fail
 refine Z1 ?_
 repeat' first | refine s_ ?_ | fail
 refine Z1 ?_
 repeat' first | refine s_ ?_ | fail
 refine cn (by exact rfl) q42 (r' := .agg (ChA c p0 4 5 7 8 9 6)) (mem' := (chD c :: zcel :: unk 10 :: unk 10 :: ChRr c p0)) ?_ rfl ?_
 rotate_left
 · rw [List.map_append, ChRr_rens]; rfl
 repeat' first | refine s_ ?_ | fail
 refine kp [(2, .ref 0 0), (3, .d (.ptr (.agg [.int .i64 4, .bool true, .int .i64 (i : Int), .int .i64 at_]))), (4, .ref 1 0), (5, .d (.int .i64 0)), (29, .d (.bool false))] ⟨rfl, rfl, rfl, rfl, rfl, trivial⟩ ?_
 refine Z0 ?_
 refine gK_b (row_k (by simp) (sD_k _) (by simp)) (row_k (by simp) (sD_k _) (by simp)) (row_k (by simp) (pD_k _) (by simp)) (row_k (by simp) (sD_k _) (by simp)) (row_k (by simp) (sD_k _) (by simp)) hm0 ?_
 refine Z1 ?_
 repeat' first | refine s_ ?_ | fail
 refine Z16 ?_
 repeat' first | refine s_ ?_ | fail
 refine cf (by exact rfl) ?_ (by rw [sD_len]; simp; omega)
 repeat' first | refine s_ ?_ | fail
 refine gq (p := .ref 9 (rlo 1 [] (sD c.bak) [] + ((i : Int)).toNat * 1)) (by exact rfl) (fun _ ht => by exact Q_rowIndex (n := (sD c.bak).length) rfl rfl (by omega) (by rw [sD_len]; exact_mod_cast hi) u35 sz9 ht) ?_
 refine gq (p := .d (.str x)) (by exact rfl) (fun _ ht => by exact Q_rowLeaf (pre := []) (xs := sD c.bak) (post := []) (i := i) (f := 0) (k := 1) rfl rfl (by rw [rlo_ne (sD_ne hi)]; rfl) hxD rfl (row_k (by simp) (sD_k _) (by simp)) u9 rfl rfl ht) ?_
 repeat' first | refine s_ ?_ | fail
 refine Z1 ?_
 repeat' first | refine s_ ?_ | fail
 refine Z1 ?_
 repeat' first | refine s_ ?_ | fail
 refine Z1 ?_
 repeat' first | refine s_ ?_ | fail
 refine Z16 ?_
 repeat' first | refine s_ ?_ | fail
 refine d_ (fun hb => ?_) (fun hb => ?_)
 · have h : at_ < 0 ∨ at_ ≥ (x.size : Int) := by simpa using hb
   simp only [h, if_true]
   repeat' first | refine s_ ?_ | fail
   exact e_
 have h : ¬ (at_ < 0 ∨ at_ ≥ (x.size : Int)) := by simpa using hb
 simp only [h, if_false]
 repeat' first | refine s_ ?_ | fail
 refine kp [(2, .ref 0 0), (3, .d (.ptr (.agg [.int .i64 4, .bool true, .int .i64 (i : Int), .int .i64 at_]))), (4, .ref 1 0), (8, rowV 9 1 [] (sD c.bak) []), (9, .d (.str x))] ⟨rfl, rfl, rfl, rfl, rfl, trivial⟩ ?_
 refine (show GF _ _ _ _ ⟨_, [[.d (.int .i64 c.win), .d (.int .i64 c.base), .d (.int .i64 c.nxt), .d (.sl (sD c.una)), .d (.sl (sD c.wai)), .d (.int .i64 c.exp), .d (.sl (pD c.ear)), .d (.sl (sD c.del)), .d (.sl (sD c.tos)), rowV 9 1 [] (sD c.bak) []], zcel, unk 10, unk 10, [], [], [], [], [], flat ([] ++ sD c.bak ++ [])]⟩ from ?_)
 refine ow [8] [[[.d (.int .i64 c.win), .d (.int .i64 c.base), .d (.int .i64 c.nxt), .d (.sl (sD c.una)), .d (.sl (sD c.wai)), .d (.int .i64 c.exp), .d (.sl (pD c.ear)), .d (.sl (sD c.del)), .d (.sl (sD c.tos)), rowV 9 1 [] (sD c.bak) []], zcel, unk 10, unk 10, [], [], [], [], [], flat ([] ++ sD c.bak ++ [])], ([[.d (.int .i64 c.win), .d (.int .i64 c.base), .d (.int .i64 c.nxt), .d (.sl (sD c.una)), .d (.sl (sD c.wai)), .d (.int .i64 c.exp), .d (.sl (pD c.ear)), .d (.sl (sD c.del)), .d (.sl (sD c.tos)), rowV 9 1 [] (sD c.bak) []], zcel, unk 10, unk 10, [], [], [], [], [], flat ([] ++ sD c.bak ++ [])]).set 9 (flat ([] ++ (sD c.bak).set i (.str (x.extract 0 at_.toNat)) ++ []))] (hc := ?_)
 iterate 6 refine aw (hc := ?_)
 refine bw (hcc := ?_) (hc := ?_)
 · omega
 refine qw 0 (p := .ref 9 (rlo 1 [] (sD c.bak) [] + ((i : Int)).toNat * 1)) (hmm := rfl) (hs := rfl) (hj := rfl) (h := fun _ => rfl) (hq := fun rest _ ht => by exact Q_rowIndex (n := (sD c.bak).length) rfl rfl (by omega) (by rw [sD_len]; exact_mod_cast hi) u35 sz9 ht) (hc := ?_)
 refine dw 0 (hm1 := rfl) (hm2 := rfl) (hs := rfl) (hj := rfl) (hop := rfl) (hy := fun rest => D_rowSet (pre := []) (xs := sD c.bak) (post := []) (i := i) (k := 1) rfl rfl (by rw [rlo_ne (sD_ne hi)]; rfl) (by rw [sD_len]; exact hi) (row_k (by simp) (sD_k _) (by simp)) (by decide) rfl rfl sz9) (hc := ?_)
 refine Z25 ?_
 rw [sD_set]
 rw [show rowV 9 1 [] (sD c.bak) [] = rowV 9 1 [] (sD (c.bak.set i (x.extract 0 at_.toNat))) [] from (rowV_set 9 [] [] (x.extract 0 at_.toNat) hi).symm]
 repeat' first | refine s_ ?_ | fail
 refine Z16 ?_
 repeat' first | refine s_ ?_ | fail
 refine kp [(2, .ref 0 0), (3, .d (.ptr (.agg [.int .i64 4, .bool true, .int .i64 (i : Int), .int .i64 at_]))), (4, .ref 1 0), (126, .d (.bool false))] ⟨rfl, rfl, rfl, rfl, trivial⟩ ?_
 refine gE_b (c := { c with bak := c.bak.set i (x.extract 0 at_.toNat) }) (row_k (by simp) (sD_k _) (by simp)) hm0 ?_
 refine Z1 ?_
 repeat' first | refine s_ ?_ | fail
 refine Z1 ?_
 repeat' first | refine s_ ?_ | fail
 exact e_
theorem le200t {c : Ch} (h : chkC c = false) : c.tos.length ≤ 200 := by
 unfold chkC at h
 simp only [Bool.or_eq_false_iff] at h
 have h6 := h.2
 unfold chk5 at h6
 simp only [Bool.or_eq_false_iff, decide_eq_false_iff_not] at h6
 omega
set_option maxRecDepth 100000 in
theorem c23_3t (c : Ch) (i : Nat) (at_ : Int) {x : ByteArray} (hs : c.Sm) (hkf : chkC c = false) (hx : c.tos[i]? = some x) : ActR c 3 false (i : Int) at_ (if c.tos.length = 200 then (zeroC, 5) else ({ c with tos := c.tos ++ [x] }, 0)) := by
 have hi : i < c.tos.length := (lG hx)
 have hr := rt_of hs hkf
 have hrcv := rcv_of hs hr
 have hxD := sD_get hx
 have hc := hs.few
 have hc' := hc
 obtain ⟨h0, h1, h2, h3, h4, h5⟩ := hc'
 have q17 := c17 c (by omega) (by omega) (by omega) (by omega) (by omega) (by omega)
 have q42 := c42 c hc
 rw [if_neg (by rw [hkf]; decide)] at q17
 unfold ActR acD
 unfold Ch.d at q17 q42 ⊢
 refine pfb Tryd.func23 Tryd.ntmps23 Tryd.results23 (fun S0 O0 w0 m0 hm0 => ?_)
 iterate 4 refine s_ ?_
 refine Z8 ?_
 repeat' first | refine s_ ?_ | refine c_ q17 ?_ | fail
 have h200 := le200t hkf
 refine Z1 ?_
 repeat' first | refine s_ ?_ | fail
 refine Z1 ?_
 repeat' first | refine s_ ?_ | fail
 refine cn (by exact rfl) q42 (r' := .agg (ChA c p0 4 5 7 8 9 6)) (mem' := (chD c :: zcel :: unk 10 :: unk 10 :: ChRr c p0)) ?_ rfl ?_
 rotate_left
 · rw [List.map_append, ChRr_rens]; rfl
 repeat' first | refine s_ ?_ | fail
 refine kp [(2, .ref 0 0), (3, .d (.ptr (.agg [.int .i64 3, .bool false, .int .i64 (i : Int), .int .i64 at_]))), (4, .ref 1 0), (5, .d (.int .i64 0)), (29, .d (.bool false))] ⟨rfl, rfl, rfl, rfl, rfl, trivial⟩ ?_
 refine Z0 ?_;refine Z13 ?_;refine Z1 ?_
 repeat' first | refine s_ ?_ | fail
 refine Z1 ?_
 repeat' first | refine s_ ?_ | fail
 refine cf (by exact rfl) ?_ (by rw [sD_len]; simp; omega)
 repeat' first | refine s_ ?_ | fail
 refine gq (p := .ref 8 (rlo 1 [] (sD c.tos) [] + ((i : Int)).toNat * 1)) (by exact rfl) (fun _ ht => by exact Q_rowIndex (n := (sD c.tos).length) rfl rfl (by omega) (by rw [sD_len]; exact_mod_cast hi) u35 sz9 ht) ?_
 refine gq (p := .d (.str x)) (by exact rfl) (fun _ ht => by exact Q_rowLeaf (pre := []) (xs := sD c.tos) (post := []) (i := i) (f := 0) (k := 1) rfl rfl (by rw [rlo_ne (sD_ne hi)]; rfl) hxD rfl (row_k (by simp) (sD_k _) (by simp)) u9 rfl rfl ht) ?_
 repeat' first | refine s_ ?_ | fail
 refine Z1 ?_
 repeat' first | refine s_ ?_ | fail
 refine Z1 ?_
 repeat' first | refine s_ ?_ | fail
 refine Z16 ?_
 repeat' first | refine s_ ?_ | fail
 refine d_ (fun hb => ?_) (fun hb => ?_)
 · have hl : c.tos.length = 200 := by have := oR hb; rw [sD_len] at this; omega
   simp only [hl, if_true]
   repeat' first | refine s_ ?_ | fail
   exact e_
 have hl : ¬ c.tos.length = 200 := by have := of_decide_eq_false hb; rw [sD_len] at this; omega
 simp only [hl, if_false]
 repeat' first | refine s_ ?_ | refine bs (by exact rfl) ?_ | fail
 refine gCell 0 8 rfl rfl ?_ rfl rfl
 refine gApG (pre := []) (xs := sD c.tos) (post := []) (ys := [.str x]) rfl rfl rfl rfl rfl (by rw [hm0]; exact Nat.zero_le _) (by exact J5) rfl (by simp) (row_k (by simp) (sD_k _) (by simp)) (by simp [D.cells]) (by decide) u35 inf9 rfl (by simp [Value.cells, Value.oneCell']) (by rw [sD_len]; unfold lim; simp; omega) (by rw [sD_len]; unfold lim; simp; omega) (Nat.le_of_ble_eq_true rfl) (fun a b hab => ?_)
 rw [← List.length_append, sD_snoc]
 rw [sD_snoc] at hab
 repeat' first | refine s_ ?_ | fail
 refine Z1 ?_
 repeat' first | refine s_ ?_ | fail
 refine kp [(2, .ref 0 0), (3, .d (.ptr (.agg [.int .i64 3, .bool false, .int .i64 (i : Int), .int .i64 at_]))), (4, .ref 1 0), (126, .d (.bool false))] ⟨rfl, rfl, rfl, rfl, trivial⟩ ?_
 refine gE_t (c := { c with tos := c.tos ++ [x] }) hab hm0 ?_
 refine Z1 ?_
 repeat' first | refine s_ ?_ | fail
 refine Z1 ?_
 repeat' first | refine s_ ?_ | fail
 exact e_
set_option maxRecDepth 100000 in
theorem c23_4t (c : Ch) (i : Nat) (at_ : Int) {x : ByteArray} (hs : c.Sm) (hkf : chkC c = false) (hx : c.tos[i]? = some x) : ActR c 4 false (i : Int) at_ (if at_ < 0 ∨ at_ ≥ (x.size : Int) then (zeroC, 4) else ({ c with tos := c.tos.set i (x.extract 0 at_.toNat) }, 0)) := by
 have hi : i < c.tos.length := (lG hx)
 have hr := rt_of hs hkf
 have hrcv := rcv_of hs hr
 have hxD := sD_get hx
 have hc := hs.few
 have hc' := hc
 obtain ⟨h0, h1, h2, h3, h4, h5⟩ := hc'
 have q17 := c17 c (by omega) (by omega) (by omega) (by omega) (by omega) (by omega)
 have q42 := c42 c hc
 rw [if_neg (by rw [hkf]; decide)] at q17
 unfold ActR acD
 unfold Ch.d at q17 q42 ⊢
 refine pfb Tryd.func23 Tryd.ntmps23 Tryd.results23 (fun S0 O0 w0 m0 hm0 => ?_)
 iterate 4 refine s_ ?_
 refine Z8 ?_
 repeat' first | refine s_ ?_ | refine c_ q17 ?_ | fail
 refine Z1 ?_
 repeat' first | refine s_ ?_ | fail
 refine Z1 ?_
 repeat' first | refine s_ ?_ | fail
 refine cn (by exact rfl) q42 (r' := .agg (ChA c p0 4 5 7 8 9 6)) (mem' := (chD c :: zcel :: unk 10 :: unk 10 :: ChRr c p0)) ?_ rfl ?_
 rotate_left
 · rw [List.map_append, ChRr_rens]; rfl
 repeat' first | refine s_ ?_ | fail
 refine kp [(2, .ref 0 0), (3, .d (.ptr (.agg [.int .i64 4, .bool false, .int .i64 (i : Int), .int .i64 at_]))), (4, .ref 1 0), (5, .d (.int .i64 0)), (29, .d (.bool false))] ⟨rfl, rfl, rfl, rfl, rfl, trivial⟩ ?_
 refine Z0 ?_;refine Z13 ?_;refine Z1 ?_
 repeat' first | refine s_ ?_ | fail
 refine Z1 ?_
 repeat' first | refine s_ ?_ | fail
 refine cf (by exact rfl) ?_ (by rw [sD_len]; simp; omega)
 repeat' first | refine s_ ?_ | fail
 refine gq (p := .ref 8 (rlo 1 [] (sD c.tos) [] + ((i : Int)).toNat * 1)) (by exact rfl) (fun _ ht => by exact Q_rowIndex (n := (sD c.tos).length) rfl rfl (by omega) (by rw [sD_len]; exact_mod_cast hi) u35 sz9 ht) ?_
 refine gq (p := .d (.str x)) (by exact rfl) (fun _ ht => by exact Q_rowLeaf (pre := []) (xs := sD c.tos) (post := []) (i := i) (f := 0) (k := 1) rfl rfl (by rw [rlo_ne (sD_ne hi)]; rfl) hxD rfl (row_k (by simp) (sD_k _) (by simp)) u9 rfl rfl ht) ?_
 repeat' first | refine s_ ?_ | fail
 refine Z1 ?_
 repeat' first | refine s_ ?_ | fail
 refine Z1 ?_
 repeat' first | refine s_ ?_ | fail
 refine Z1 ?_
 repeat' first | refine s_ ?_ | fail
 refine Z16 ?_
 repeat' first | refine s_ ?_ | fail
 refine d_ (fun hb => ?_) (fun hb => ?_)
 · have h : at_ < 0 ∨ at_ ≥ (x.size : Int) := by simpa using hb
   simp only [h, if_true]
   repeat' first | refine s_ ?_ | fail
   exact e_
 have h : ¬ (at_ < 0 ∨ at_ ≥ (x.size : Int)) := by simpa using hb
 simp only [h, if_false]
 repeat' first | refine s_ ?_ | fail
 refine kp [(2, .ref 0 0), (3, .d (.ptr (.agg [.int .i64 4, .bool false, .int .i64 (i : Int), .int .i64 at_]))), (4, .ref 1 0), (8, rowV 8 1 [] (sD c.tos) []), (9, .d (.str x))] ⟨rfl, rfl, rfl, rfl, rfl, trivial⟩ ?_
 refine (show GF _ _ _ _ ⟨_, [[.d (.int .i64 c.win), .d (.int .i64 c.base), .d (.int .i64 c.nxt), .d (.sl (sD c.una)), .d (.sl (sD c.wai)), .d (.int .i64 c.exp), .d (.sl (pD c.ear)), .d (.sl (sD c.del)), rowV 8 1 [] (sD c.tos) [], .d (.sl (sD c.bak))], zcel, unk 10, unk 10, [], [], [], [], flat ([] ++ sD c.tos ++ [])]⟩ from ?_)
 refine ow [8] [[[.d (.int .i64 c.win), .d (.int .i64 c.base), .d (.int .i64 c.nxt), .d (.sl (sD c.una)), .d (.sl (sD c.wai)), .d (.int .i64 c.exp), .d (.sl (pD c.ear)), .d (.sl (sD c.del)), rowV 8 1 [] (sD c.tos) [], .d (.sl (sD c.bak))], zcel, unk 10, unk 10, [], [], [], [], flat ([] ++ sD c.tos ++ [])], ([[.d (.int .i64 c.win), .d (.int .i64 c.base), .d (.int .i64 c.nxt), .d (.sl (sD c.una)), .d (.sl (sD c.wai)), .d (.int .i64 c.exp), .d (.sl (pD c.ear)), .d (.sl (sD c.del)), rowV 8 1 [] (sD c.tos) [], .d (.sl (sD c.bak))], zcel, unk 10, unk 10, [], [], [], [], flat ([] ++ sD c.tos ++ [])]).set 8 (flat ([] ++ (sD c.tos).set i (.str (x.extract 0 at_.toNat)) ++ []))] (hc := ?_)
 iterate 6 refine aw (hc := ?_)
 refine bw (hcc := ?_) (hc := ?_)
 · omega
 refine qw 0 (p := .ref 8 (rlo 1 [] (sD c.tos) [] + ((i : Int)).toNat * 1)) (hmm := rfl) (hs := rfl) (hj := rfl) (h := fun _ => rfl) (hq := fun rest _ ht => by exact Q_rowIndex (n := (sD c.tos).length) rfl rfl (by omega) (by rw [sD_len]; exact_mod_cast hi) u35 sz9 ht) (hc := ?_)
 refine dw 0 (hm1 := rfl) (hm2 := rfl) (hs := rfl) (hj := rfl) (hop := rfl) (hy := fun rest => D_rowSet (pre := []) (xs := sD c.tos) (post := []) (i := i) (k := 1) rfl rfl (by rw [rlo_ne (sD_ne hi)]; rfl) (by rw [sD_len]; exact hi) (row_k (by simp) (sD_k _) (by simp)) (by decide) rfl rfl sz9) (hc := ?_)
 refine Z25 ?_
 rw [sD_set]
 rw [show rowV 8 1 [] (sD c.tos) [] = rowV 8 1 [] (sD (c.tos.set i (x.extract 0 at_.toNat))) [] from (rowV_set 8 [] [] (x.extract 0 at_.toNat) hi).symm]
 repeat' first | refine s_ ?_ | fail
 refine Z1 ?_
 repeat' first | refine s_ ?_ | fail
 refine kp [(2, .ref 0 0), (3, .d (.ptr (.agg [.int .i64 4, .bool false, .int .i64 (i : Int), .int .i64 at_]))), (4, .ref 1 0), (126, .d (.bool false))] ⟨rfl, rfl, rfl, rfl, trivial⟩ ?_
 refine gE_t (c := { c with tos := c.tos.set i (x.extract 0 at_.toNat) }) (row_k (by simp) (sD_k _) (by simp)) hm0 ?_
 refine Z1 ?_
 repeat' first | refine s_ ?_ | fail
 refine Z1 ?_
 repeat' first | refine s_ ?_ | fail
 exact e_
end
section
theorem c23 (c : Ch) (k : Int) (b : Bool) (ix at_ : Int) (hs : c.Sm) : ActR c k b ix at_ (actS c k b ix at_) := by
 unfold actS
 cases hk : chkC c with
 | true => rw [if_pos rfl]; exact c23e1 c k b ix at_ hs hk
 | false =>
  rw [if_neg (by decide)]
  by_cases h15 : k < 1 ∨ 5 < k
  · rw [if_pos h15]; exact c23e2 c k b ix at_ hs hk h15
  rw [if_neg h15]
  by_cases h5 : k = 5
  · rw [if_pos h5]
    subst h5
    exact c23_5 c b ix at_ hs hk
  rw [if_neg h5]
  by_cases hix : ix < 0 ∨ ((flt c b).length : Int) ≤ ix
  · rw [if_pos hix]
    cases b with
    | true => exact c23e3t c k ix at_ hs hk (by omega) (by omega) hix
    | false => exact c23e3f c k ix at_ hs hk (by omega) (by omega) hix
  rw [if_neg hix]
  obtain ⟨i, rfl⟩ : ∃ i : Nat, ix = (i : Int) := ⟨ix.toNat, by omega⟩
  rw [Int.toNat_natCast]
  have hif : i < (flt c b).length := by omega
  obtain ⟨x, hx⟩ : ∃ x, (flt c b)[i]? = some x := ⟨_, gE hif⟩
  rw [List.getD_eq_getElem?_getD, hx, Option.getD_some]
  have hk4 : k = 1 ∨ k = 2 ∨ k = 3 ∨ k = 4 := by omega
  unfold actK
  cases b with
  | true =>
   have hx' : c.bak[i]? = some x := hx
   rcases hk4 with rfl | rfl | rfl | rfl
   · exact c23_1b c i at_ hs hk hx'
   · exact c23_2b c i at_ hs hk hx'
   · exact c23_3b c i at_ hs hk hx'
   · exact c23_4b c i at_ hs hk hx'
  | false =>
   have hx' : c.tos[i]? = some x := hx
   rcases hk4 with rfl | rfl | rfl | rfl
   · exact c23_1t c i at_ hs hk hx'
   · exact c23_2t c i at_ hs hk hx'
   · exact c23_3t c i at_ hs hk hx'
   · exact c23_4t c i at_ hs hk hx'
open Go.RowKit in
theorem PL.row {f : FuncId} {ds : List D} {b : Bool} (h : PL f ds (.d (.bool b))) (W : World) (hW : Lad (E.allOf W) W) (vals : Array Value) (hsz : vals.size = ds.length)
 (hr : ∀ (i : Nat) d v, ds[i]? = some d → vals[i]? = some v → Rd W (E.allOf W) d v) :
 Calls Tryd.prog f vals W fun e w' => e = .returned (.bool b) ∧ Below W.heap.size W w' := by
 refine (h.2 (E.allOf W) W hW W (E.allOf W) noOwns [] vals (Ext.refl _ _) (fun _ _ h => h) (Env.start W) (by simpa using hsz) ?_).mono ?_
 · intro i p v hi hv
   rw [List.getElem?_map] at hi
   cases hd : ds[i]? with
   | none => rw [hd] at hi; cases hi
   | some d =>
    rw [hd] at hi
    cases hi
    exact .d _ d v (hr i d v hd hv)
 · rintro e w' ⟨v, r, mem', S', O', m', rfl, ⟨rfl, rfl⟩, henv, _, _, hrp⟩
   refine ⟨?_, henv.below⟩
   cases hrp with
   | d _ _ _ hd => rw [rd_bool hd]
theorem zcl {n : Nat} {S0 : Reg} {O0 : Owns} {w0 : World} {m0 Bs : List Nat} {ds : List Deferred} {fr : List Fr} {Q : Exit → GS → Prop} {kl : List (Nat × Nat)} {ops : Array Oper} {base pre : List (Nat × PV)} {ws : List Nat} {ms : List (List (List PV))} {i j t : Nat} {es es' : List (Nat × Nat × PV)} {f : FuncId} {args : List D} {dl : List D} (hL : Lad S0 w0) (hs : seeF kl ops.toList i es base = some pre) (hj : nth nums (i + 1) = some j) (h : ∀ rest, cms ops.toList n i (pre ++ rest) = some (t, f, args.map .d)) (hcl : PL f args (.tup (dl.map .d))) (hes : snocK es (i, t, .tup (dl.map .d)) some = some es') (hc : COz kl ⟨Tryd.prog, n, S0, O0, w0, m0, Bs, ds⟩ fr ops base ws ms j es' Q) (hargs : args.map PV.d = PV.rens (fun b => ([] : List Nat).getD b 0) (args.map PV.d) := by rfl) (hra : PV.refsBs 0 (args.map PV.d) = true := by rfl) (hr : ∀ g : Nat → Nat, (PV.tup (dl.map .d)).ren g = .tup (dl.map .d) := by intro g; rfl) (hi : memN i ws = false := by rfl) : COz kl ⟨Tryd.prog, n, S0, O0, w0, m0, Bs, ds⟩ fr ops base ws ms i es Q := zAny hs hj hes hi hc fun rest X _ hg => clL hL (h rest) hcl hg hargs hra (hr _)
variable {c : Ch}
theorem sendS_few (h : c.Few) (m : ByteArray) (hu : c.una.length < 1000000) (hw : c.wai.length < 1000000) : (sendS c m).Few := by
 unfold sendS
 have hz : zeroC.Few := ⟨Nat.zero_le _, Nat.zero_le _, Nat.zero_le _, Nat.zero_le _, Nat.zero_le _, Nat.zero_le _⟩
 split
 · exact hz
 · split
   · exact hz
   · split
     · exact hz
     · split
       · exact nextC_few h m hu
       · exact { h with wai := by show (c.wai ++ [m]).length ≤ _; rw [List.length_append]; simp; omega }
theorem fillN_few : ∀ (n : Nat) (c : Ch), c.Few → c.una.length + c.wai.length ≤ 900000 → (fillN n c).Few
 | 0, _, h, _ => h
 | n + 1, c, h, hl => by
  unfold fillN
  cases hw : c.wai with
  | nil => exact h
  | cons m r =>
   show (if _ then _ else _ : Ch).Few
   split
   · have hwl : c.wai.length = r.length + 1 := by rw [hw]; rfl
     have h1 := nextC_few h m (by omega)
     have hu : (nextC c m).una.length = c.una.length + 1 := by
      rw [nextC_eq]; show (c.una ++ [m]).length = _; rw [List.length_append]; rfl
     exact fillN_few n _ { h1 with wai := by show r.length ≤ _; omega } (by show (nextC c m).una.length + r.length ≤ _; omega)
   · exact h
theorem dueN_few : ∀ (n : Nat) (c : Ch), c.Few → c.del.length + c.ear.length ≤ 900000 → (dueN n c).Few
 | 0, _, h, _ => h
 | n + 1, c, h, hl => by
  unfold dueN
  cases hw : c.ear with
  | nil => exact h
  | cons q r =>
   show (if _ then _ else _ : Ch).Few
   split
   · have hwl : c.ear.length = r.length + 1 := by rw [hw]; rfl
     exact dueN_few n _ (delC_few (c := { c with ear := r }) { h with ear := by show r.length ≤ _; have := h.ear; omega } q (by show c.del.length < _; omega)) (by show (c.del ++ [q.bo]).length + r.length ≤ _; rw [List.length_append]; simp; omega)
   · exact h
theorem sendB_few (h : c.Few) (q : Pk) : (sendB c q).Few := by
 unfold sendB
 split
 · rename_i hl
   exact { h with bak := by show (c.bak ++ [enC q]).length ≤ _; rw [List.length_append]; simp; omega }
 · exact h
theorem ackC_few (h : c.Few) (hl : c.una.length + c.wai.length ≤ 900000) (s : ByteArray) : (ackC c s).Few := by
 unfold ackC
 split
 · exact h
 · exact fillN_few _ _ { h with una := by show (c.una.drop _).length ≤ _; rw [List.length_drop]; have := h.una; omega } (by show (c.una.drop _).length + c.wai.length ≤ _; rw [List.length_drop]; omega)
theorem insK_len2 (l : List Pk) (i : Nat) (q : Pk) : (insK l i q).length ≤ l.length + 1 := by
 unfold insK
 simp only [List.length_append, List.length_cons, List.length_take, List.length_drop]; omega
theorem rcvC_few (h : c.Few) (hl : c.del.length + c.ear.length ≤ 800000) (s : ByteArray) : (rcvC c s).Few := by
 unfold rcvC
 split
 · refine sendB_few ?_ _
   unfold rcvD
   split
   · exact h
   · split
     · exact dueN_few _ _ (delC_few h _ (by omega)) (by show (c.del ++ [_]).length + c.ear.length ≤ _; rw [List.length_append]; simp; omega)
     · split
       · split
         · exact h
         · exact { h with ear := by show (insK c.ear _ _).length ≤ _; have := insK_len2 c.ear (ixE (deP s).nu c.ear) (deP s); omega }
       · exact h
 · exact h
theorem pushT_len (l : List ByteArray) (q : Pk) {n : Nat} (h1 : 200 ≤ n) (h : l.length ≤ n) : (pushT l q).length ≤ n := by
 unfold pushT
 split
 · rw [List.length_append]; simp; omega
 · exact h
theorem tickL_len (base : Int) {n : Nat} (h1 : 200 ≤ n) : ∀ (l : List ByteArray) (z : Nat) (T : List ByteArray), T.length ≤ n → (tickL base z l T).length ≤ n
 | [], _, _, h => h
 | m :: r, z, T, h => tickL_len base h1 r (z + 1) _ (pushT_len T _ h1 h)
theorem actS_few (hs : c.Sm) (k : Int) (b : Bool) (ix at_ : Int) : (actS c k b ix at_).1.Few := by
 have hz : zeroC.Few := ⟨Nat.zero_le _, Nat.zero_le _, Nat.zero_le _, Nat.zero_le _, Nat.zero_le _, Nat.zero_le _⟩
 have hc := hs.few
 have g1 := hs.una; have g2 := hs.wai; have g3 := hs.ear; have g4 := hs.del; have g5 := hs.tos; have g6 := hs.bak
 have hel : ∀ (l : List ByteArray) (i : Nat), l.length ≤ 20000 → (l.eraseIdx i).length ≤ 1000000 := fun l i h => by rw [List.length_eraseIdx]; split <;> omega
 unfold actS
 split
 · exact hz
 split
 · exact hz
 split
 · exact { hc with tos := tickL_len c.base (by omega) _ _ _ hc.tos }
 split
 · exact hz
 unfold actK
 split
 · split
   · exact ackC_few (c := { c with bak := c.bak.eraseIdx _ }) { hc with bak := hel _ _ g6 } (by show c.una.length + c.wai.length ≤ _; omega) _
   · exact rcvC_few (c := { c with tos := c.tos.eraseIdx _ }) { hc with tos := hel _ _ g5 } (by show c.del.length + c.ear.length ≤ _; omega) _
 split
 · split
   · exact { hc with bak := hel _ _ g6 }
   · exact { hc with tos := hel _ _ g5 }
 split
 · split
   · exact hz
   · split
     · exact { hc with bak := by show (c.bak ++ [_]).length ≤ _; rw [List.length_append]; simp; omega }
     · exact { hc with tos := by show (c.tos ++ [_]).length ≤ _; rw [List.length_append]; simp; omega }
 · split
   · exact hz
   · split
     · exact { hc with bak := by show (c.bak.set _ _).length ≤ _; rw [List.length_set]; omega }
     · exact { hc with tos := by show (c.tos.set _ _).length ≤ _; rw [List.length_set]; omega }
theorem newS_few (n : Int) : (newS n).Few := by
 unfold newS
 cases (decide (n < 1) || decide (n > 16)) <;> exact ⟨Nat.zero_le _, Nat.zero_le _, Nat.zero_le _, Nat.zero_le _, Nat.zero_le _, Nat.zero_le _⟩
end
section
set_option maxRecDepth 100000 in
theorem c4 (c : Ch) (m : ByteArray) (a : Ac) (w : Int) (h0 : c.una.length ≤ 140737488355328) (h1 : c.wai.length ≤ 140737488355328) (h2 : c.ear.length ≤ 140737488355328) (h3 : c.del.length ≤ 140737488355328) (h4 : c.tos.length ≤ 140737488355328) (h5 : c.bak.length ≤ 140737488355328) : PL 4 [c.d, .str m, a.d, .int .i64 w] (.d (.bool true)) := by
 have q14 := c14 c (by omega) (by omega) (by omega) (by omega) (by omega) (by omega)
 have ha : a.d = .agg [.int .i64 a.k, .bool a.b, .int .i64 a.ix, .int .i64 a.at_] := rfl
 rw [ha]
 have q16 := c16 c (by omega) (by omega) (by omega) (by omega) (by omega) (by omega)
 have q17 := c17 c (by omega) (by omega) (by omega) (by omega) (by omega) (by omega)
 unfold Ch.d at q14 q16 q17 ⊢
 refine plB Tryd.func4 Tryd.ntmps4 Tryd.results4 (fun S0 O0 w0 m0 hL hm0 => ?_)
 repeat' first | refine s_ ?_ | refine c_ q14 ?_ | fail
 refine d_ (fun hb => ?_) (fun hb => ?_)
 · repeat' first | refine s_ ?_ | refine c_ c9 ?_ | fail
   exact e_
 have hsm : smaB c = true := by
  cases hq : smaB c with
  | true => rfl
  | false => rw [hq] at hb; simp at hb
 have hs := sma_of hsm
 have hc := hs.few
 have g1 := hs.una; have g2 := hs.wai
 have g3 := hs.ear
 have q15 := c15 c (by omega)
 have q18 := c18 c m hc
 have q19 := c19 c m hc
 have q20 := c20 (sendS c m) (sendS_few hc m (by omega) (by omega))
 have q21 : PL 21 [c.d, acD a.k a.b a.ix a.at_] (.tup ([(actS c a.k a.b a.ix a.at_).1.d, D.int .i64 (actS c a.k a.b a.ix a.at_).2].map .d)) := c21 c a.k a.b a.ix a.at_ hs
 have q22 := c22 [a] (by simp)
 have q23 := c23 c a.k a.b a.ix a.at_ hs
 have q20b := c20 (actS c a.k a.b a.ix a.at_).1 (actS_few hs _ _ _ _)
 have q24 := c24 w
 have q25 := c25 w
 have q20c := c20 (newS w) (newS_few w)
 unfold ActR acD at q23
 unfold acD at q21
 generalize sendS c m = ys at q18 q19 q20
 generalize sendE c m = ye at q18 q19
 generalize (actS c a.k a.b a.ix a.at_).1 = az at q21 q23 q20b
 generalize (actS c a.k a.b a.ix a.at_).2 = ae at q21 q23
 generalize newS w = ns at q24 q25 q20c
 generalize newE w = ne at q24 q25
 unfold aD Ac.d acD at q22
 unfold Ch.d at q15 q18 q19 q20 q21 q23 q20b q24 q25 q20c
 repeat' first | refine s_ ?_ | refine c_ q15 ?_ | fail
 refine Z7 ?_;refine Z5 ?_
 refine oc (hcl := q16) (hc := ?_)
 refine Z5 ?_
 refine oc (hcl := q17) (hc := ?_)
 refine Z5 ?_;refine Z6 ?_
 repeat' first | refine s_ ?_ | fail
 refine cf (by exact rfl) ?_ (by simp)
 repeat' first | refine s_ ?_ | refine c_ q18 ?_ | refine c_ q19 ?_ | refine clg (by exact rfl) (fun _ => q20) ?_ | fail
 refine cf (by exact rfl) ?_ (by simp)
 repeat' first | refine s_ ?_ | fail
 refine kp [(3, .d (.int .i64 w)), (4, .ref 0 0), (6, .ref 1 0), (9, .ref 2 0), (10, .ref 3 0), (12, .ref 4 0)] ⟨rfl, rfl, rfl, rfl, rfl, rfl, trivial⟩ ?_
 refine (show GF _ _ _ _ ⟨_, [[.d (.int .i64 c.win), .d (.int .i64 c.base), .d (.int .i64 c.nxt), .d (strs c.una), .d (strs c.wai), .d (.int .i64 c.exp), .d (.sl (c.ear.map Pk.d)), .d (strs c.del), .d (strs c.tos), .d (strs c.bak)], [.d (.int .i64 a.k), .d (.bool a.b), .d (.int .i64 a.ix), .d (.int .i64 a.at_)], [.d (.int .i64 c.win), .d (.int .i64 c.base), .d (.int .i64 c.nxt), .d (strs c.una), .d (strs c.wai), .d (.int .i64 c.exp), .d (.sl (c.ear.map Pk.d)), .d (strs c.del), .d (strs c.tos), .d (strs c.bak)], [.d (.int .i64 ys.win), .d (.int .i64 ys.base), .d (.int .i64 ys.nxt), .d (strs ys.una), .d (strs ys.wai), .d (.int .i64 ys.exp), .d (.sl (ys.ear.map Pk.d)), .d (strs ys.del), .d (strs ys.tos), .d (strs ys.bak)], [.d (.int .i64 ys.win), .d (.int .i64 ys.base), .d (.int .i64 ys.nxt), .d (strs ys.una), .d (strs ys.wai), .d (.int .i64 ys.exp), .d (.sl (ys.ear.map Pk.d)), .d (strs ys.del), .d (strs ys.tos), .d (strs ys.bak)]]⟩ from ?_)
 refine zo [] [10] [[[.d (.int .i64 c.win), .d (.int .i64 c.base), .d (.int .i64 c.nxt), .d (strs c.una), .d (strs c.wai), .d (.int .i64 c.exp), .d (.sl (c.ear.map Pk.d)), .d (strs c.del), .d (strs c.tos), .d (strs c.bak)], [.d (.int .i64 a.k), .d (.bool a.b), .d (.int .i64 a.ix), .d (.int .i64 a.at_)], [.d (.int .i64 c.win), .d (.int .i64 c.base), .d (.int .i64 c.nxt), .d (strs c.una), .d (strs c.wai), .d (.int .i64 c.exp), .d (.sl (c.ear.map Pk.d)), .d (strs c.del), .d (strs c.tos), .d (strs c.bak)], [.d (.int .i64 ys.win), .d (.int .i64 ys.base), .d (.int .i64 ys.nxt), .d (strs ys.una), .d (strs ys.wai), .d (.int .i64 ys.exp), .d (.sl (ys.ear.map Pk.d)), .d (strs ys.del), .d (strs ys.tos), .d (strs ys.bak)], [.d (.int .i64 ys.win), .d (.int .i64 ys.base), .d (.int .i64 ys.nxt), .d (strs ys.una), .d (strs ys.wai), .d (.int .i64 ys.exp), .d (.sl (ys.ear.map Pk.d)), .d (strs ys.del), .d (strs ys.tos), .d (strs ys.bak)]], [[.d (.int .i64 c.win), .d (.int .i64 c.base), .d (.int .i64 c.nxt), .d (strs c.una), .d (strs c.wai), .d (.int .i64 c.exp), .d (.sl (c.ear.map Pk.d)), .d (strs c.del), .d (strs c.tos), .d (strs c.bak)], [.d (.int .i64 a.k), .d (.bool a.b), .d (.int .i64 a.ix), .d (.int .i64 a.at_)], [.d (.int .i64 c.win), .d (.int .i64 c.base), .d (.int .i64 c.nxt), .d (strs c.una), .d (strs c.wai), .d (.int .i64 c.exp), .d (.sl (c.ear.map Pk.d)), .d (strs c.del), .d (strs c.tos), .d (strs c.bak)], [.d (.int .i64 az.win), .d (.int .i64 az.base), .d (.int .i64 az.nxt), .d (strs az.una), .d (strs az.wai), .d (.int .i64 az.exp), .d (.sl (az.ear.map Pk.d)), .d (strs az.del), .d (strs az.tos), .d (strs az.bak)], [.d (.int .i64 ys.win), .d (.int .i64 ys.base), .d (.int .i64 ys.nxt), .d (strs ys.una), .d (strs ys.wai), .d (.int .i64 ys.exp), .d (.sl (ys.ear.map Pk.d)), .d (strs ys.del), .d (strs ys.tos), .d (strs ys.bak)]]] (hc := ?_)
 iterate 2 refine za 0 (hc := ?_)
 refine zb (hc := ?_)
 refine zc (hcl := q22) (hc := ?_)
 refine zi (ix := 0) (hd := rfl) (hc := ?_)
 refine Z29 ?_
 refine zcl hL (by exact rfl) (by exact rfl) (by exact fun _ => rfl) q21 (by exact rfl) ?_
 iterate 3 refine zv (hc := ?_)
 refine zs 0 (hc := ?_)
 refine Z29 ?_;refine Z35 ?_
 repeat' first | refine s_ ?_ | refine c_ q23 ?_ | refine clg (by exact rfl) (fun _ => q20b) ?_ | fail
 refine cf (by exact rfl) ?_ (by simp)
 repeat' first | refine s_ ?_ | refine c_ q24 ?_ | refine c_ q25 ?_ | refine clg (by exact rfl) (fun _ => q20c) ?_ | refine clg (by exact rfl) (fun _ => c9) ?_ | fail
 exact en (by exact rfl) (by simp)
end
end Go.Proofs.YtoonleefemkalaaDoor
