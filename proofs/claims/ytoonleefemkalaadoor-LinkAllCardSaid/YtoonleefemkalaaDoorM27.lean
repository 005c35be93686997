import Derived.Test.YtoonleefemkalaaDoorM26
/- Contracts of functions. Conditions: none. -/
set_option linter.unusedSimpArgs false
set_option linter.unusedVariables false
set_option maxRecDepth 20000
namespace Go.Proofs.YtoonleefemkalaaDoor
open Go Go.Proofs.YtoonleefemkalaaDoor.E
section
set_option maxRecDepth 100000 in
theorem c21L_2t (c c' : Ch) (ix at_ e : Int) (hc : c.Few) (hk : chkC c = false) (h0 : 0 ≤ ix) (h1 : ix < (c.tos.length : Int)) (hm : MtL 46 [.ref 0 0, .d (acD 2 false ix at_)] c (.d (.int .i64 e)) c') : PL 21 [c.d, acD 2 false ix at_] (.tup [.d (if e = 0 then c' else zeroC).d, .d (.int .i64 e)]) := by
 have hc' := hc
 obtain ⟨g0, g1, g2, g3, g4, g5⟩ := hc'
 have q16 := c16 c (by omega) (by omega) (by omega) (by omega) (by omega) (by omega)
 rw [hk] at q16
 have q40 := c40 c hc
 have q44 := c44Dt c 2 ix at_
 unfold acD at q44 hm ⊢
 unfold Ch.d at q16 q40 ⊢
 refine plB Tryd.func21 Tryd.ntmps21 Tryd.results21 (fun S0 O0 w0 m0 hL hm0 => ?_)
 repeat' first | refine s_ ?_ | refine c_ q16 ?_ | fail
 refine Z10 ?_
 repeat' first | refine s_ ?_ | fail
 refine Z10 ?_
 repeat' first | refine s_ ?_ | fail
 have hgd : (2 != 5 && decide (ix < 0) == false) = true := by simp; omega
 refine Z30 ?_
 iterate 10 refine ov (hc := ?_)
 refine oStep (p := .d (.agg [.int .i64 2, .bool false, .int .i64 ix, .int .i64 at_])) (by exact rfl) (by exact rfl) (by exact rfl) ?_ (fun rest _ hg => gOn (by exact rfl) hgd rfl rfl rfl rfl rfl (oR rfl) (st (by exact rfl) (gOnEnd hg)))
 refine oStep (p := .ref 0 8) (by exact rfl) (by exact rfl) (by exact rfl) ?_ (fun rest _ hg => gOn (by exact rfl) hgd rfl rfl rfl rfl rfl (oR rfl) (cs [0] (by exact rfl) q44 (gOnEnd hg)))
 iterate 6 refine ov (hc := ?_)
 refine Z28 ?_
 refine cf (by exact rfl) ?_ (by rw [List.length_map]; simp; omega)
 repeat' first | refine s_ ?_ | fail
 refine cn (by exact rfl) q40 (r' := .agg (ChA c p0 6 7 8 9 10 11)) (mem' := (chD c :: [.d (.int .i64 2), .d (.bool false), .d (.int .i64 ix), .d (.int .i64 at_)] :: zcel :: unk 10 :: unk 10 :: unk 5 :: ChR c p0)) ?_ rfl (by rw [List.map_append, ChR_rens]; rfl)
 repeat' first | refine s_ ?_ | fail
 refine Z0 ?_
 refine (show GF _ _ _ _ ⟨_, ChA c p0 6 7 8 9 10 11 :: [.d (.int .i64 2), .d (.bool false), .d (.int .i64 ix), .d (.int .i64 at_)] :: zcel :: unk 10 :: unk 10 :: unk 5 :: (ChR c p0 ++ [[.d .nilF, .d (.fn (.func 45) [] []), .d (.fn (.func 46) [] []), .d (.fn (.func 47) [] []), .d (.fn (.func 48) [] []), .d (.fn (.func 49) [] [])]])⟩ from ?_)
 refine tab5L 5 51 [(0, 46, .ref 1 0), (1, 47, .d (.int .i64 2)), (2, 48, .ref 12 (0 + (2 : Int).toNat * 1)), (3, 49, .d (.fn (.func 46) [] [])), (4, 50, .d (.agg [.int .i64 2, .bool false, .int .i64 ix, .int .i64 at_]))] [(6, 8, .d (.int .i64 e))] [0, 1, 2, 3, 4, 6] (by exact rfl) (by exact rfl) (fun rest => rfl) hL hm p0_ok (fun a => ?_) (fun p' hp' => ?_)
 · refine ⟨?_, ?_, ?_, ?_, ?_, ?_, trivial⟩
   iterate 2 exact ta_
   · exact tav (pre := (47, .d (.int .i64 2)) :: [(2, .ref 0 0), (3, .ref 1 0), (4, .ref 2 0), (7, .ref 12 0)]) rfl rfl rfl rfl (by kernel_rfl) (fun _ => rfl) (fun rest ht => by exact Q_arrAddr (b := 12) (o := 0) (m := 1) (k := .i64) (i := 2) rfl rfl und91 (by kernel_rfl) (by decide) (by decide))
   · exact tav (pre := (48, .ref 12 (0 + (2 : Int).toNat * 1)) :: [(2, .ref 0 0), (3, .ref 1 0), (4, .ref 2 0), (7, .ref 12 0)]) rfl rfl rfl rfl (by kernel_rfl) (fun _ => rfl) (fun rest ht => by exact Q_load_leaf (b := 12) (off := 0 + (2 : Int).toNat * 1) (p := .d (.fn (.func 46) [] [])) rfl rfl rfl und88 rfl rfl rfl ht)
   · exact ta_
   · exact tq3 (by exact rfl) (by exact rfl) rfl rfl (by exact fun _ _ => rfl)
 · refine s_ ?_
   refine Z2 ?_
   repeat' first | refine s_ ?_ | fail
   refine d_ (fun hb => ?_) (fun hb => ?_)
   · have he : ¬ e = 0 := by simpa using hb
     rw [if_neg he]
     repeat' first | refine s_ ?_ | fail
     exact e_
   · have he : e = 0 := by simpa using hb
     subst he
     rw [if_pos rfl]
     refine Z7 ?_
     refine fg 12 (by exact rfl) ?_ rfl (by omega) (by show (PV.refsBs 12 (ChA c' p' 6 7 8 9 10 11) && (PV.refsBs 12 _ && (PV.refsBs 12 _ && (PV.refsBs 12 _ && (PV.refsBs 12 _ && (PV.refsBs 12 _ && (ChR c' p').all (PV.refsBs 12))))))) = true; rw [ChR_refs]; rfl)
     refine (show GF _ _ _ _ ⟨_, ChA c' p' 6 7 8 9 10 11 :: [.d (.int .i64 2), .d (.bool false), .d (.int .i64 ix), .d (.int .i64 at_)] :: zcel :: unk 10 :: unk 10 :: unk 5 :: ChR c' p'⟩ from ?_)
     refine gChD5 hp' ?_ (by show m0.length ≤ 6; omega)
     repeat' first | refine s_ ?_ | fail
     exact e_
set_option maxRecDepth 100000 in
theorem c21L_2b (c c' : Ch) (ix at_ e : Int) (hc : c.Few) (hk : chkC c = false) (h0 : 0 ≤ ix) (h1 : ix < (c.bak.length : Int)) (hm : MtL 46 [.ref 0 0, .d (acD 2 true ix at_)] c (.d (.int .i64 e)) c') : PL 21 [c.d, acD 2 true ix at_] (.tup [.d (if e = 0 then c' else zeroC).d, .d (.int .i64 e)]) := by
 have hc' := hc
 obtain ⟨g0, g1, g2, g3, g4, g5⟩ := hc'
 have q16 := c16 c (by omega) (by omega) (by omega) (by omega) (by omega) (by omega)
 rw [hk] at q16
 have q40 := c40 c hc
 have q44 := c44Db c 2 ix at_
 unfold acD at q44 hm ⊢
 unfold Ch.d at q16 q40 ⊢
 refine plB Tryd.func21 Tryd.ntmps21 Tryd.results21 (fun S0 O0 w0 m0 hL hm0 => ?_)
 repeat' first | refine s_ ?_ | refine c_ q16 ?_ | fail
 refine Z10 ?_
 repeat' first | refine s_ ?_ | fail
 refine Z10 ?_
 repeat' first | refine s_ ?_ | fail
 have hgd : (2 != 5 && decide (ix < 0) == false) = true := by simp; omega
 refine Z30 ?_
 iterate 10 refine ov (hc := ?_)
 refine oStep (p := .d (.agg [.int .i64 2, .bool true, .int .i64 ix, .int .i64 at_])) (by exact rfl) (by exact rfl) (by exact rfl) ?_ (fun rest _ hg => gOn (by exact rfl) hgd rfl rfl rfl rfl rfl (oR rfl) (st (by exact rfl) (gOnEnd hg)))
 refine oStep (p := .ref 0 9) (by exact rfl) (by exact rfl) (by exact rfl) ?_ (fun rest _ hg => gOn (by exact rfl) hgd rfl rfl rfl rfl rfl (oR rfl) (cs [0] (by exact rfl) q44 (gOnEnd hg)))
 iterate 6 refine ov (hc := ?_)
 refine Z28 ?_
 refine cf (by exact rfl) ?_ (by rw [List.length_map]; simp; omega)
 repeat' first | refine s_ ?_ | fail
 refine cn (by exact rfl) q40 (r' := .agg (ChA c p0 6 7 8 9 10 11)) (mem' := (chD c :: [.d (.int .i64 2), .d (.bool true), .d (.int .i64 ix), .d (.int .i64 at_)] :: zcel :: unk 10 :: unk 10 :: unk 5 :: ChR c p0)) ?_ rfl (by rw [List.map_append, ChR_rens]; rfl)
 repeat' first | refine s_ ?_ | fail
 refine Z0 ?_
 refine (show GF _ _ _ _ ⟨_, ChA c p0 6 7 8 9 10 11 :: [.d (.int .i64 2), .d (.bool true), .d (.int .i64 ix), .d (.int .i64 at_)] :: zcel :: unk 10 :: unk 10 :: unk 5 :: (ChR c p0 ++ [[.d .nilF, .d (.fn (.func 45) [] []), .d (.fn (.func 46) [] []), .d (.fn (.func 47) [] []), .d (.fn (.func 48) [] []), .d (.fn (.func 49) [] [])]])⟩ from ?_)
 refine tab5L 5 51 [(0, 46, .ref 1 0), (1, 47, .d (.int .i64 2)), (2, 48, .ref 12 (0 + (2 : Int).toNat * 1)), (3, 49, .d (.fn (.func 46) [] [])), (4, 50, .d (.agg [.int .i64 2, .bool true, .int .i64 ix, .int .i64 at_]))] [(6, 8, .d (.int .i64 e))] [0, 1, 2, 3, 4, 6] (by exact rfl) (by exact rfl) (fun rest => rfl) hL hm p0_ok (fun a => ?_) (fun p' hp' => ?_)
 · refine ⟨?_, ?_, ?_, ?_, ?_, ?_, trivial⟩
   iterate 2 exact ta_
   · exact tav (pre := (47, .d (.int .i64 2)) :: [(2, .ref 0 0), (3, .ref 1 0), (4, .ref 2 0), (7, .ref 12 0)]) rfl rfl rfl rfl (by kernel_rfl) (fun _ => rfl) (fun rest ht => by exact Q_arrAddr (b := 12) (o := 0) (m := 1) (k := .i64) (i := 2) rfl rfl und91 (by kernel_rfl) (by decide) (by decide))
   · exact tav (pre := (48, .ref 12 (0 + (2 : Int).toNat * 1)) :: [(2, .ref 0 0), (3, .ref 1 0), (4, .ref 2 0), (7, .ref 12 0)]) rfl rfl rfl rfl (by kernel_rfl) (fun _ => rfl) (fun rest ht => by exact Q_load_leaf (b := 12) (off := 0 + (2 : Int).toNat * 1) (p := .d (.fn (.func 46) [] [])) rfl rfl rfl und88 rfl rfl rfl ht)
   · exact ta_
   · exact tq3 (by exact rfl) (by exact rfl) rfl rfl (by exact fun _ _ => rfl)
 · refine s_ ?_
   refine Z2 ?_
   repeat' first | refine s_ ?_ | fail
   refine d_ (fun hb => ?_) (fun hb => ?_)
   · have he : ¬ e = 0 := by simpa using hb
     rw [if_neg he]
     repeat' first | refine s_ ?_ | fail
     exact e_
   · have he : e = 0 := by simpa using hb
     subst he
     rw [if_pos rfl]
     refine Z7 ?_
     refine fg 12 (by exact rfl) ?_ rfl (by omega) (by show (PV.refsBs 12 (ChA c' p' 6 7 8 9 10 11) && (PV.refsBs 12 _ && (PV.refsBs 12 _ && (PV.refsBs 12 _ && (PV.refsBs 12 _ && (PV.refsBs 12 _ && (ChR c' p').all (PV.refsBs 12))))))) = true; rw [ChR_refs]; rfl)
     refine (show GF _ _ _ _ ⟨_, ChA c' p' 6 7 8 9 10 11 :: [.d (.int .i64 2), .d (.bool true), .d (.int .i64 ix), .d (.int .i64 at_)] :: zcel :: unk 10 :: unk 10 :: unk 5 :: ChR c' p'⟩ from ?_)
     refine gChD5 hp' ?_ (by show m0.length ≤ 6; omega)
     repeat' first | refine s_ ?_ | fail
     exact e_
end
section
set_option maxRecDepth 100000 in
theorem c21L_3t (c c' : Ch) (ix at_ e : Int) (hc : c.Few) (hk : chkC c = false) (h0 : 0 ≤ ix) (h1 : ix < (c.tos.length : Int)) (hm : MtL 47 [.ref 0 0, .d (acD 3 false ix at_)] c (.d (.int .i64 e)) c') : PL 21 [c.d, acD 3 false ix at_] (.tup [.d (if e = 0 then c' else zeroC).d, .d (.int .i64 e)]) := by
 have hc' := hc
 obtain ⟨g0, g1, g2, g3, g4, g5⟩ := hc'
 have q16 := c16 c (by omega) (by omega) (by omega) (by omega) (by omega) (by omega)
 rw [hk] at q16
 have q40 := c40 c hc
 have q44 := c44Dt c 3 ix at_
 unfold acD at q44 hm ⊢
 unfold Ch.d at q16 q40 ⊢
 refine plB Tryd.func21 Tryd.ntmps21 Tryd.results21 (fun S0 O0 w0 m0 hL hm0 => ?_)
 repeat' first | refine s_ ?_ | refine c_ q16 ?_ | fail
 refine Z10 ?_
 repeat' first | refine s_ ?_ | fail
 refine Z10 ?_
 repeat' first | refine s_ ?_ | fail
 have hgd : (3 != 5 && decide (ix < 0) == false) = true := by simp; omega
 refine Z30 ?_
 iterate 10 refine ov (hc := ?_)
 refine oStep (p := .d (.agg [.int .i64 3, .bool false, .int .i64 ix, .int .i64 at_])) (by exact rfl) (by exact rfl) (by exact rfl) ?_ (fun rest _ hg => gOn (by exact rfl) hgd rfl rfl rfl rfl rfl (oR rfl) (st (by exact rfl) (gOnEnd hg)))
 refine oStep (p := .ref 0 8) (by exact rfl) (by exact rfl) (by exact rfl) ?_ (fun rest _ hg => gOn (by exact rfl) hgd rfl rfl rfl rfl rfl (oR rfl) (cs [0] (by exact rfl) q44 (gOnEnd hg)))
 iterate 6 refine ov (hc := ?_)
 refine Z28 ?_
 refine cf (by exact rfl) ?_ (by rw [List.length_map]; simp; omega)
 repeat' first | refine s_ ?_ | fail
 refine cn (by exact rfl) q40 (r' := .agg (ChA c p0 6 7 8 9 10 11)) (mem' := (chD c :: [.d (.int .i64 3), .d (.bool false), .d (.int .i64 ix), .d (.int .i64 at_)] :: zcel :: unk 10 :: unk 10 :: unk 5 :: ChR c p0)) ?_ rfl (by rw [List.map_append, ChR_rens]; rfl)
 repeat' first | refine s_ ?_ | fail
 refine Z0 ?_
 refine (show GF _ _ _ _ ⟨_, ChA c p0 6 7 8 9 10 11 :: [.d (.int .i64 3), .d (.bool false), .d (.int .i64 ix), .d (.int .i64 at_)] :: zcel :: unk 10 :: unk 10 :: unk 5 :: (ChR c p0 ++ [[.d .nilF, .d (.fn (.func 45) [] []), .d (.fn (.func 46) [] []), .d (.fn (.func 47) [] []), .d (.fn (.func 48) [] []), .d (.fn (.func 49) [] [])]])⟩ from ?_)
 refine tab5L 5 51 [(0, 46, .ref 1 0), (1, 47, .d (.int .i64 3)), (2, 48, .ref 12 (0 + (3 : Int).toNat * 1)), (3, 49, .d (.fn (.func 47) [] [])), (4, 50, .d (.agg [.int .i64 3, .bool false, .int .i64 ix, .int .i64 at_]))] [(6, 8, .d (.int .i64 e))] [0, 1, 2, 3, 4, 6] (by exact rfl) (by exact rfl) (fun rest => rfl) hL hm p0_ok (fun a => ?_) (fun p' hp' => ?_)
 · refine ⟨?_, ?_, ?_, ?_, ?_, ?_, trivial⟩
   iterate 2 exact ta_
   · exact tav (pre := (47, .d (.int .i64 3)) :: [(2, .ref 0 0), (3, .ref 1 0), (4, .ref 2 0), (7, .ref 12 0)]) rfl rfl rfl rfl (by kernel_rfl) (fun _ => rfl) (fun rest ht => by exact Q_arrAddr (b := 12) (o := 0) (m := 1) (k := .i64) (i := 3) rfl rfl und91 (by kernel_rfl) (by decide) (by decide))
   · exact tav (pre := (48, .ref 12 (0 + (3 : Int).toNat * 1)) :: [(2, .ref 0 0), (3, .ref 1 0), (4, .ref 2 0), (7, .ref 12 0)]) rfl rfl rfl rfl (by kernel_rfl) (fun _ => rfl) (fun rest ht => by exact Q_load_leaf (b := 12) (off := 0 + (3 : Int).toNat * 1) (p := .d (.fn (.func 47) [] [])) rfl rfl rfl und88 rfl rfl rfl ht)
   · exact ta_
   · exact tq3 (by exact rfl) (by exact rfl) rfl rfl (by exact fun _ _ => rfl)
 · refine s_ ?_
   refine Z2 ?_
   repeat' first | refine s_ ?_ | fail
   refine d_ (fun hb => ?_) (fun hb => ?_)
   · have he : ¬ e = 0 := by simpa using hb
     rw [if_neg he]
     repeat' first | refine s_ ?_ | fail
     exact e_
   · have he : e = 0 := by simpa using hb
     subst he
     rw [if_pos rfl]
     refine Z7 ?_
     refine fg 12 (by exact rfl) ?_ rfl (by omega) (by show (PV.refsBs 12 (ChA c' p' 6 7 8 9 10 11) && (PV.refsBs 12 _ && (PV.refsBs 12 _ && (PV.refsBs 12 _ && (PV.refsBs 12 _ && (PV.refsBs 12 _ && (ChR c' p').all (PV.refsBs 12))))))) = true; rw [ChR_refs]; rfl)
     refine (show GF _ _ _ _ ⟨_, ChA c' p' 6 7 8 9 10 11 :: [.d (.int .i64 3), .d (.bool false), .d (.int .i64 ix), .d (.int .i64 at_)] :: zcel :: unk 10 :: unk 10 :: unk 5 :: ChR c' p'⟩ from ?_)
     refine gChD5 hp' ?_ (by show m0.length ≤ 6; omega)
     repeat' first | refine s_ ?_ | fail
     exact e_
set_option maxRecDepth 100000 in
theorem c21L_3b (c c' : Ch) (ix at_ e : Int) (hc : c.Few) (hk : chkC c = false) (h0 : 0 ≤ ix) (h1 : ix < (c.bak.length : Int)) (hm : MtL 47 [.ref 0 0, .d (acD 3 true ix at_)] c (.d (.int .i64 e)) c') : PL 21 [c.d, acD 3 true ix at_] (.tup [.d (if e = 0 then c' else zeroC).d, .d (.int .i64 e)]) := by
 have hc' := hc
 obtain ⟨g0, g1, g2, g3, g4, g5⟩ := hc'
 have q16 := c16 c (by omega) (by omega) (by omega) (by omega) (by omega) (by omega)
 rw [hk] at q16
 have q40 := c40 c hc
 have q44 := c44Db c 3 ix at_
 unfold acD at q44 hm ⊢
 unfold Ch.d at q16 q40 ⊢
 refine plB Tryd.func21 Tryd.ntmps21 Tryd.results21 (fun S0 O0 w0 m0 hL hm0 => ?_)
 repeat' first | refine s_ ?_ | refine c_ q16 ?_ | fail
 refine Z10 ?_
 repeat' first | refine s_ ?_ | fail
 refine Z10 ?_
 repeat' first | refine s_ ?_ | fail
 have hgd : (3 != 5 && decide (ix < 0) == false) = true := by simp; omega
 refine Z30 ?_
 iterate 10 refine ov (hc := ?_)
 refine oStep (p := .d (.agg [.int .i64 3, .bool true, .int .i64 ix, .int .i64 at_])) (by exact rfl) (by exact rfl) (by exact rfl) ?_ (fun rest _ hg => gOn (by exact rfl) hgd rfl rfl rfl rfl rfl (oR rfl) (st (by exact rfl) (gOnEnd hg)))
 refine oStep (p := .ref 0 9) (by exact rfl) (by exact rfl) (by exact rfl) ?_ (fun rest _ hg => gOn (by exact rfl) hgd rfl rfl rfl rfl rfl (oR rfl) (cs [0] (by exact rfl) q44 (gOnEnd hg)))
 iterate 6 refine ov (hc := ?_)
 refine Z28 ?_
 refine cf (by exact rfl) ?_ (by rw [List.length_map]; simp; omega)
 repeat' first | refine s_ ?_ | fail
 refine cn (by exact rfl) q40 (r' := .agg (ChA c p0 6 7 8 9 10 11)) (mem' := (chD c :: [.d (.int .i64 3), .d (.bool true), .d (.int .i64 ix), .d (.int .i64 at_)] :: zcel :: unk 10 :: unk 10 :: unk 5 :: ChR c p0)) ?_ rfl (by rw [List.map_append, ChR_rens]; rfl)
 repeat' first | refine s_ ?_ | fail
 refine Z0 ?_
 refine (show GF _ _ _ _ ⟨_, ChA c p0 6 7 8 9 10 11 :: [.d (.int .i64 3), .d (.bool true), .d (.int .i64 ix), .d (.int .i64 at_)] :: zcel :: unk 10 :: unk 10 :: unk 5 :: (ChR c p0 ++ [[.d .nilF, .d (.fn (.func 45) [] []), .d (.fn (.func 46) [] []), .d (.fn (.func 47) [] []), .d (.fn (.func 48) [] []), .d (.fn (.func 49) [] [])]])⟩ from ?_)
 refine tab5L 5 51 [(0, 46, .ref 1 0), (1, 47, .d (.int .i64 3)), (2, 48, .ref 12 (0 + (3 : Int).toNat * 1)), (3, 49, .d (.fn (.func 47) [] [])), (4, 50, .d (.agg [.int .i64 3, .bool true, .int .i64 ix, .int .i64 at_]))] [(6, 8, .d (.int .i64 e))] [0, 1, 2, 3, 4, 6] (by exact rfl) (by exact rfl) (fun rest => rfl) hL hm p0_ok (fun a => ?_) (fun p' hp' => ?_)
 · refine ⟨?_, ?_, ?_, ?_, ?_, ?_, trivial⟩
   iterate 2 exact ta_
   · exact tav (pre := (47, .d (.int .i64 3)) :: [(2, .ref 0 0), (3, .ref 1 0), (4, .ref 2 0), (7, .ref 12 0)]) rfl rfl rfl rfl (by kernel_rfl) (fun _ => rfl) (fun rest ht => by exact Q_arrAddr (b := 12) (o := 0) (m := 1) (k := .i64) (i := 3) rfl rfl und91 (by kernel_rfl) (by decide) (by decide))
   · exact tav (pre := (48, .ref 12 (0 + (3 : Int).toNat * 1)) :: [(2, .ref 0 0), (3, .ref 1 0), (4, .ref 2 0), (7, .ref 12 0)]) rfl rfl rfl rfl (by kernel_rfl) (fun _ => rfl) (fun rest ht => by exact Q_load_leaf (b := 12) (off := 0 + (3 : Int).toNat * 1) (p := .d (.fn (.func 47) [] [])) rfl rfl rfl und88 rfl rfl rfl ht)
   · exact ta_
   · exact tq3 (by exact rfl) (by exact rfl) rfl rfl (by exact fun _ _ => rfl)
 · refine s_ ?_
   refine Z2 ?_
   repeat' first | refine s_ ?_ | fail
   refine d_ (fun hb => ?_) (fun hb => ?_)
   · have he : ¬ e = 0 := by simpa using hb
     rw [if_neg he]
     repeat' first | refine s_ ?_ | fail
     exact e_
   · have he : e = 0 := by simpa using hb
     subst he
     rw [if_pos rfl]
     refine Z7 ?_
     refine fg 12 (by exact rfl) ?_ rfl (by omega) (by show (PV.refsBs 12 (ChA c' p' 6 7 8 9 10 11) && (PV.refsBs 12 _ && (PV.refsBs 12 _ && (PV.refsBs 12 _ && (PV.refsBs 12 _ && (PV.refsBs 12 _ && (ChR c' p').all (PV.refsBs 12))))))) = true; rw [ChR_refs]; rfl)
     refine (show GF _ _ _ _ ⟨_, ChA c' p' 6 7 8 9 10 11 :: [.d (.int .i64 3), .d (.bool true), .d (.int .i64 ix), .d (.int .i64 at_)] :: zcel :: unk 10 :: unk 10 :: unk 5 :: ChR c' p'⟩ from ?_)
     refine gChD5 hp' ?_ (by show m0.length ≤ 6; omega)
     repeat' first | refine s_ ?_ | fail
     exact e_
end
section
set_option maxRecDepth 100000 in
theorem c21L_4t (c c' : Ch) (ix at_ e : Int) (hc : c.Few) (hk : chkC c = false) (h0 : 0 ≤ ix) (h1 : ix < (c.tos.length : Int)) (hm : MtL 48 [.ref 0 0, .d (acD 4 false ix at_)] c (.d (.int .i64 e)) c') : PL 21 [c.d, acD 4 false ix at_] (.tup [.d (if e = 0 then c' else zeroC).d, .d (.int .i64 e)]) := by
 have hc' := hc
 obtain ⟨g0, g1, g2, g3, g4, g5⟩ := hc'
 have q16 := c16 c (by omega) (by omega) (by omega) (by omega) (by omega) (by omega)
 rw [hk] at q16
 have q40 := c40 c hc
 have q44 := c44Dt c 4 ix at_
 unfold acD at q44 hm ⊢
 unfold Ch.d at q16 q40 ⊢
 refine plB Tryd.func21 Tryd.ntmps21 Tryd.results21 (fun S0 O0 w0 m0 hL hm0 => ?_)
 repeat' first | refine s_ ?_ | refine c_ q16 ?_ | fail
 refine Z10 ?_
 repeat' first | refine s_ ?_ | fail
 refine Z10 ?_
 repeat' first | refine s_ ?_ | fail
 have hgd : (4 != 5 && decide (ix < 0) == false) = true := by simp; omega
 refine Z30 ?_
 iterate 10 refine ov (hc := ?_)
 refine oStep (p := .d (.agg [.int .i64 4, .bool false, .int .i64 ix, .int .i64 at_])) (by exact rfl) (by exact rfl) (by exact rfl) ?_ (fun rest _ hg => gOn (by exact rfl) hgd rfl rfl rfl rfl rfl (oR rfl) (st (by exact rfl) (gOnEnd hg)))
 refine oStep (p := .ref 0 8) (by exact rfl) (by exact rfl) (by exact rfl) ?_ (fun rest _ hg => gOn (by exact rfl) hgd rfl rfl rfl rfl rfl (oR rfl) (cs [0] (by exact rfl) q44 (gOnEnd hg)))
 iterate 6 refine ov (hc := ?_)
 refine Z28 ?_
 refine cf (by exact rfl) ?_ (by rw [List.length_map]; simp; omega)
 repeat' first | refine s_ ?_ | fail
 refine cn (by exact rfl) q40 (r' := .agg (ChA c p0 6 7 8 9 10 11)) (mem' := (chD c :: [.d (.int .i64 4), .d (.bool false), .d (.int .i64 ix), .d (.int .i64 at_)] :: zcel :: unk 10 :: unk 10 :: unk 5 :: ChR c p0)) ?_ rfl (by rw [List.map_append, ChR_rens]; rfl)
 repeat' first | refine s_ ?_ | fail
 refine Z0 ?_
 refine (show GF _ _ _ _ ⟨_, ChA c p0 6 7 8 9 10 11 :: [.d (.int .i64 4), .d (.bool false), .d (.int .i64 ix), .d (.int .i64 at_)] :: zcel :: unk 10 :: unk 10 :: unk 5 :: (ChR c p0 ++ [[.d .nilF, .d (.fn (.func 45) [] []), .d (.fn (.func 46) [] []), .d (.fn (.func 47) [] []), .d (.fn (.func 48) [] []), .d (.fn (.func 49) [] [])]])⟩ from ?_)
 refine tab5L 5 51 [(0, 46, .ref 1 0), (1, 47, .d (.int .i64 4)), (2, 48, .ref 12 (0 + (4 : Int).toNat * 1)), (3, 49, .d (.fn (.func 48) [] [])), (4, 50, .d (.agg [.int .i64 4, .bool false, .int .i64 ix, .int .i64 at_]))] [(6, 8, .d (.int .i64 e))] [0, 1, 2, 3, 4, 6] (by exact rfl) (by exact rfl) (fun rest => rfl) hL hm p0_ok (fun a => ?_) (fun p' hp' => ?_)
 · refine ⟨?_, ?_, ?_, ?_, ?_, ?_, trivial⟩
   iterate 2 exact ta_
   · exact tav (pre := (47, .d (.int .i64 4)) :: [(2, .ref 0 0), (3, .ref 1 0), (4, .ref 2 0), (7, .ref 12 0)]) rfl rfl rfl rfl (by kernel_rfl) (fun _ => rfl) (fun rest ht => by exact Q_arrAddr (b := 12) (o := 0) (m := 1) (k := .i64) (i := 4) rfl rfl und91 (by kernel_rfl) (by decide) (by decide))
   · exact tav (pre := (48, .ref 12 (0 + (4 : Int).toNat * 1)) :: [(2, .ref 0 0), (3, .ref 1 0), (4, .ref 2 0), (7, .ref 12 0)]) rfl rfl rfl rfl (by kernel_rfl) (fun _ => rfl) (fun rest ht => by exact Q_load_leaf (b := 12) (off := 0 + (4 : Int).toNat * 1) (p := .d (.fn (.func 48) [] [])) rfl rfl rfl und88 rfl rfl rfl ht)
   · exact ta_
   · exact tq3 (by exact rfl) (by exact rfl) rfl rfl (by exact fun _ _ => rfl)
 · refine s_ ?_
   refine Z2 ?_
   repeat' first | refine s_ ?_ | fail
   refine d_ (fun hb => ?_) (fun hb => ?_)
   · have he : ¬ e = 0 := by simpa using hb
     rw [if_neg he]
     repeat' first | refine s_ ?_ | fail
     exact e_
   · have he : e = 0 := by simpa using hb
     subst he
     rw [if_pos rfl]
     refine Z7 ?_
     refine fg 12 (by exact rfl) ?_ rfl (by omega) (by show (PV.refsBs 12 (ChA c' p' 6 7 8 9 10 11) && (PV.refsBs 12 _ && (PV.refsBs 12 _ && (PV.refsBs 12 _ && (PV.refsBs 12 _ && (PV.refsBs 12 _ && (ChR c' p').all (PV.refsBs 12))))))) = true; rw [ChR_refs]; rfl)
     refine (show GF _ _ _ _ ⟨_, ChA c' p' 6 7 8 9 10 11 :: [.d (.int .i64 4), .d (.bool false), .d (.int .i64 ix), .d (.int .i64 at_)] :: zcel :: unk 10 :: unk 10 :: unk 5 :: ChR c' p'⟩ from ?_)
     refine gChD5 hp' ?_ (by show m0.length ≤ 6; omega)
     repeat' first | refine s_ ?_ | fail
     exact e_
set_option maxRecDepth 100000 in
theorem c21L_4b (c c' : Ch) (ix at_ e : Int) (hc : c.Few) (hk : chkC c = false) (h0 : 0 ≤ ix) (h1 : ix < (c.bak.length : Int)) (hm : MtL 48 [.ref 0 0, .d (acD 4 true ix at_)] c (.d (.int .i64 e)) c') : PL 21 [c.d, acD 4 true ix at_] (.tup [.d (if e = 0 then c' else zeroC).d, .d (.int .i64 e)]) := by
 have hc' := hc
 obtain ⟨g0, g1, g2, g3, g4, g5⟩ := hc'
 have q16 := c16 c (by omega) (by omega) (by omega) (by omega) (by omega) (by omega)
 rw [hk] at q16
 have q40 := c40 c hc
 have q44 := c44Db c 4 ix at_
 unfold acD at q44 hm ⊢
 unfold Ch.d at q16 q40 ⊢
 refine plB Tryd.func21 Tryd.ntmps21 Tryd.results21 (fun S0 O0 w0 m0 hL hm0 => ?_)
 repeat' first | refine s_ ?_ | refine c_ q16 ?_ | fail
 refine Z10 ?_
 repeat' first | refine s_ ?_ | fail
 refine Z10 ?_
 repeat' first | refine s_ ?_ | fail
 have hgd : (4 != 5 && decide (ix < 0) == false) = true := by simp; omega
 refine Z30 ?_
 iterate 10 refine ov (hc := ?_)
 refine oStep (p := .d (.agg [.int .i64 4, .bool true, .int .i64 ix, .int .i64 at_])) (by exact rfl) (by exact rfl) (by exact rfl) ?_ (fun rest _ hg => gOn (by exact rfl) hgd rfl rfl rfl rfl rfl (oR rfl) (st (by exact rfl) (gOnEnd hg)))
 refine oStep (p := .ref 0 9) (by exact rfl) (by exact rfl) (by exact rfl) ?_ (fun rest _ hg => gOn (by exact rfl) hgd rfl rfl rfl rfl rfl (oR rfl) (cs [0] (by exact rfl) q44 (gOnEnd hg)))
 iterate 6 refine ov (hc := ?_)
 refine Z28 ?_
 refine cf (by exact rfl) ?_ (by rw [List.length_map]; simp; omega)
 repeat' first | refine s_ ?_ | fail
 refine cn (by exact rfl) q40 (r' := .agg (ChA c p0 6 7 8 9 10 11)) (mem' := (chD c :: [.d (.int .i64 4), .d (.bool true), .d (.int .i64 ix), .d (.int .i64 at_)] :: zcel :: unk 10 :: unk 10 :: unk 5 :: ChR c p0)) ?_ rfl (by rw [List.map_append, ChR_rens]; rfl)
 repeat' first | refine s_ ?_ | fail
 refine Z0 ?_
 refine (show GF _ _ _ _ ⟨_, ChA c p0 6 7 8 9 10 11 :: [.d (.int .i64 4), .d (.bool true), .d (.int .i64 ix), .d (.int .i64 at_)] :: zcel :: unk 10 :: unk 10 :: unk 5 :: (ChR c p0 ++ [[.d .nilF, .d (.fn (.func 45) [] []), .d (.fn (.func 46) [] []), .d (.fn (.func 47) [] []), .d (.fn (.func 48) [] []), .d (.fn (.func 49) [] [])]])⟩ from ?_)
 refine tab5L 5 51 [(0, 46, .ref 1 0), (1, 47, .d (.int .i64 4)), (2, 48, .ref 12 (0 + (4 : Int).toNat * 1)), (3, 49, .d (.fn (.func 48) [] [])), (4, 50, .d (.agg [.int .i64 4, .bool true, .int .i64 ix, .int .i64 at_]))] [(6, 8, .d (.int .i64 e))] [0, 1, 2, 3, 4, 6] (by exact rfl) (by exact rfl) (fun rest => rfl) hL hm p0_ok (fun a => ?_) (fun p' hp' => ?_)
 · refine ⟨?_, ?_, ?_, ?_, ?_, ?_, trivial⟩
   iterate 2 exact ta_
   · exact tav (pre := (47, .d (.int .i64 4)) :: [(2, .ref 0 0), (3, .ref 1 0), (4, .ref 2 0), (7, .ref 12 0)]) rfl rfl rfl rfl (by kernel_rfl) (fun _ => rfl) (fun rest ht => by exact Q_arrAddr (b := 12) (o := 0) (m := 1) (k := .i64) (i := 4) rfl rfl und91 (by kernel_rfl) (by decide) (by decide))
   · exact tav (pre := (48, .ref 12 (0 + (4 : Int).toNat * 1)) :: [(2, .ref 0 0), (3, .ref 1 0), (4, .ref 2 0), (7, .ref 12 0)]) rfl rfl rfl rfl (by kernel_rfl) (fun _ => rfl) (fun rest ht => by exact Q_load_leaf (b := 12) (off := 0 + (4 : Int).toNat * 1) (p := .d (.fn (.func 48) [] [])) rfl rfl rfl und88 rfl rfl rfl ht)
   · exact ta_
   · exact tq3 (by exact rfl) (by exact rfl) rfl rfl (by exact fun _ _ => rfl)
 · refine s_ ?_
   refine Z2 ?_
   repeat' first | refine s_ ?_ | fail
   refine d_ (fun hb => ?_) (fun hb => ?_)
   · have he : ¬ e = 0 := by simpa using hb
     rw [if_neg he]
     repeat' first | refine s_ ?_ | fail
     exact e_
   · have he : e = 0 := by simpa using hb
     subst he
     rw [if_pos rfl]
     refine Z7 ?_
     refine fg 12 (by exact rfl) ?_ rfl (by omega) (by show (PV.refsBs 12 (ChA c' p' 6 7 8 9 10 11) && (PV.refsBs 12 _ && (PV.refsBs 12 _ && (PV.refsBs 12 _ && (PV.refsBs 12 _ && (PV.refsBs 12 _ && (ChR c' p').all (PV.refsBs 12))))))) = true; rw [ChR_refs]; rfl)
     refine (show GF _ _ _ _ ⟨_, ChA c' p' 6 7 8 9 10 11 :: [.d (.int .i64 4), .d (.bool true), .d (.int .i64 ix), .d (.int .i64 at_)] :: zcel :: unk 10 :: unk 10 :: unk 5 :: ChR c' p'⟩ from ?_)
     refine gChD5 hp' ?_ (by show m0.length ≤ 6; omega)
     repeat' first | refine s_ ?_ | fail
     exact e_
end
section
theorem c21e1 (c : Ch) (k : Int) (b : Bool) (ix at_ : Int) (hc : c.Few) (hk : chkC c = true) : Pf Tryd.prog 21 [c.d, acD k b ix at_] (.tup [.d zeroC.d, .d (.int .i64 331)]) := by
 have hc' := hc
 obtain ⟨g0, g1, g2, g3, g4, g5⟩ := hc'
 have q16 := c16 c (by omega) (by omega) (by omega) (by omega) (by omega) (by omega)
 rw [hk] at q16
 unfold acD
 unfold Ch.d at q16 ⊢
 refine pfb Tryd.func21 Tryd.ntmps21 Tryd.results21 (fun S0 O0 w0 m0 hm0 => ?_)
 repeat' first | refine s_ ?_ | refine c_ q16 ?_ | fail
 refine Z24 ?_
 repeat' first | refine s_ ?_ | fail
 exact e_
theorem c21e2 (c : Ch) (k : Int) (b : Bool) (ix at_ : Int) (hc : c.Few) (hk : chkC c = false) (h : k < 1 ∨ 5 < k) : Pf Tryd.prog 21 [c.d, acD k b ix at_] (.tup [.d zeroC.d, .d (.int .i64 1)]) := by
 have hc' := hc
 obtain ⟨g0, g1, g2, g3, g4, g5⟩ := hc'
 have q16 := c16 c (by omega) (by omega) (by omega) (by omega) (by omega) (by omega)
 rw [hk] at q16
 unfold acD
 unfold Ch.d at q16 ⊢
 refine pfb Tryd.func21 Tryd.ntmps21 Tryd.results21 (fun S0 O0 w0 m0 hm0 => ?_)
 repeat' first | refine s_ ?_ | refine c_ q16 ?_ | fail
 refine Z10 ?_
 repeat' first | refine s_ ?_ | fail
 refine ct (by exact rfl) ?_ (by rcases h with h | h <;> simp [h])
 repeat' first | refine s_ ?_ | fail
 exact e_
theorem c21e3t (c : Ch) (k ix at_ : Int) (hc : c.Few) (hk : chkC c = false) (h1 : 1 ≤ k) (h4 : k ≤ 4) (h : ix < 0 ∨ (c.tos.length : Int) ≤ ix) : Pf Tryd.prog 21 [c.d, acD k false ix at_] (.tup [.d zeroC.d, .d (.int .i64 4)]) := by
 have hc' := hc
 obtain ⟨g0, g1, g2, g3, g4, g5⟩ := hc'
 have q16 := c16 c (by omega) (by omega) (by omega) (by omega) (by omega) (by omega)
 rw [hk] at q16
 have q44 := c44Dt c k ix at_
 have hk5 : (k != 5) = true := by simp; omega
 unfold acD at q44 ⊢
 unfold Ch.d at q16 ⊢
 refine pfb Tryd.func21 Tryd.ntmps21 Tryd.results21 (fun S0 O0 w0 m0 hm0 => ?_)
 repeat' first | refine s_ ?_ | refine c_ q16 ?_ | fail
 refine Z10 ?_
 repeat' first | refine s_ ?_ | fail
 refine cf (by exact rfl) ?_ (by simp; omega)
 repeat' first | refine s_ ?_ | fail
 refine Z30 ?_
 iterate 10 refine ov (hc := ?_)
 by_cases hix : ix < 0
 · have hgf : (k != 5 && !decide (ix < 0)) = false := by simp [hix]
   refine oStep (p := .when (k != 5 && !decide (ix < 0)) (.d (.agg [.int .i64 k, .bool false, .int .i64 ix, .int .i64 at_]))) (by exact rfl) (by exact rfl) (by exact rfl) ?_ (fun rest _ hg => gSk _ (by exact rfl) hgf hg)
   refine oStep (p := .when (k != 5 && !decide (ix < 0)) (.ref 0 8)) (by exact rfl) (by exact rfl) (by exact rfl) ?_ (fun rest _ hg => gSk _ (by exact rfl) hgf hg)
   iterate 6 refine ov (hc := ?_)
   refine Z28 ?_
   refine ct (by exact rfl) ?_ (by simp [hix, hk5])
   repeat' first | refine s_ ?_ | fail
   exact e_
 · have hgd : (k != 5 && decide (ix < 0) == false) = true := by rw [hk5]; simp; omega
   refine oStep (p := .d (.agg [.int .i64 k, .bool false, .int .i64 ix, .int .i64 at_])) (by exact rfl) (by exact rfl) (by exact rfl) ?_ (fun rest _ hg => gOn (by exact rfl) hgd rfl rfl rfl rfl rfl (oR rfl) (st (by exact rfl) (gOnEnd hg)))
   refine oStep (p := .ref 0 8) (by exact rfl) (by exact rfl) (by exact rfl) ?_ (fun rest _ hg => gOn (by exact rfl) hgd rfl rfl rfl rfl rfl (oR rfl) (cs [0] (by exact rfl) q44 (gOnEnd hg)))
   iterate 6 refine ov (hc := ?_)
   refine Z28 ?_
   refine ct (by exact rfl) ?_ (by rw [hk5, List.length_map]; simp; omega)
   repeat' first | refine s_ ?_ | fail
   exact e_
theorem c21e3b (c : Ch) (k ix at_ : Int) (hc : c.Few) (hk : chkC c = false) (h1 : 1 ≤ k) (h4 : k ≤ 4) (h : ix < 0 ∨ (c.bak.length : Int) ≤ ix) : Pf Tryd.prog 21 [c.d, acD k true ix at_] (.tup [.d zeroC.d, .d (.int .i64 4)]) := by
 have hc' := hc
 obtain ⟨g0, g1, g2, g3, g4, g5⟩ := hc'
 have q16 := c16 c (by omega) (by omega) (by omega) (by omega) (by omega) (by omega)
 rw [hk] at q16
 have q44 := c44Db c k ix at_
 have hk5 : (k != 5) = true := by simp; omega
 unfold acD at q44 ⊢
 unfold Ch.d at q16 ⊢
 refine pfb Tryd.func21 Tryd.ntmps21 Tryd.results21 (fun S0 O0 w0 m0 hm0 => ?_)
 repeat' first | refine s_ ?_ | refine c_ q16 ?_ | fail
 refine Z10 ?_
 repeat' first | refine s_ ?_ | fail
 refine cf (by exact rfl) ?_ (by simp; omega)
 repeat' first | refine s_ ?_ | fail
 refine Z30 ?_
 iterate 10 refine ov (hc := ?_)
 by_cases hix : ix < 0
 · have hgf : (k != 5 && !decide (ix < 0)) = false := by simp [hix]
   refine oStep (p := .when (k != 5 && !decide (ix < 0)) (.d (.agg [.int .i64 k, .bool true, .int .i64 ix, .int .i64 at_]))) (by exact rfl) (by exact rfl) (by exact rfl) ?_ (fun rest _ hg => gSk _ (by exact rfl) hgf hg)
   refine oStep (p := .when (k != 5 && !decide (ix < 0)) (.ref 0 9)) (by exact rfl) (by exact rfl) (by exact rfl) ?_ (fun rest _ hg => gSk _ (by exact rfl) hgf hg)
   iterate 6 refine ov (hc := ?_)
   refine Z28 ?_
   refine ct (by exact rfl) ?_ (by simp [hix, hk5])
   repeat' first | refine s_ ?_ | fail
   exact e_
 · have hgd : (k != 5 && decide (ix < 0) == false) = true := by rw [hk5]; simp; omega
   refine oStep (p := .d (.agg [.int .i64 k, .bool true, .int .i64 ix, .int .i64 at_])) (by exact rfl) (by exact rfl) (by exact rfl) ?_ (fun rest _ hg => gOn (by exact rfl) hgd rfl rfl rfl rfl rfl (oR rfl) (st (by exact rfl) (gOnEnd hg)))
   refine oStep (p := .ref 0 9) (by exact rfl) (by exact rfl) (by exact rfl) ?_ (fun rest _ hg => gOn (by exact rfl) hgd rfl rfl rfl rfl rfl (oR rfl) (cs [0] (by exact rfl) q44 (gOnEnd hg)))
   iterate 6 refine ov (hc := ?_)
   refine Z28 ?_
   refine ct (by exact rfl) ?_ (by rw [hk5, List.length_map]; simp; omega)
   repeat' first | refine s_ ?_ | fail
   exact e_
set_option maxRecDepth 100000 in
theorem c21_5t (c c' : Ch) (ix at_ e : Int) (hc : c.Few) (hk : chkC c = false) (hm : Mt 49 [.ref 0 0, .d (acD 5 false ix at_)] c (.d (.int .i64 e)) c') : Pf Tryd.prog 21 [c.d, acD 5 false ix at_] (.tup [.d (if e = 0 then c' else zeroC).d, .d (.int .i64 e)]) := by
 have hc' := hc
 obtain ⟨g0, g1, g2, g3, g4, g5⟩ := hc'
 have q16 := c16 c (by omega) (by omega) (by omega) (by omega) (by omega) (by omega)
 rw [hk] at q16
 have q40 := c40 c hc
 have q44 := c44Dt c 5 ix at_
 unfold acD at q44 hm ⊢
 unfold Ch.d at q16 q40 ⊢
 refine pfb Tryd.func21 Tryd.ntmps21 Tryd.results21 (fun S0 O0 w0 m0 hm0 => ?_)
 repeat' first | refine s_ ?_ | refine c_ q16 ?_ | fail
 refine Z10 ?_
 repeat' first | refine s_ ?_ | fail
 refine Z10 ?_
 repeat' first | refine s_ ?_ | fail
 have hgf : ((5 : Int) != 5 && decide (ix < 0) == false) = false := by simp
 refine Z30 ?_
 iterate 10 refine ov (hc := ?_)
 refine oStep (p := .when ((5 : Int) != 5 && decide (ix < 0) == false) (.d (.agg [.int .i64 5, .bool false, .int .i64 ix, .int .i64 at_]))) (by exact rfl) (by exact rfl) (by exact rfl) ?_ (fun rest _ hg => gSk _ (by exact rfl) hgf hg)
 refine oStep (p := .when ((5 : Int) != 5 && decide (ix < 0) == false) (.ref 0 8)) (by exact rfl) (by exact rfl) (by exact rfl) ?_ (fun rest _ hg => gSk _ (by exact rfl) hgf hg)
 iterate 6 refine ov (hc := ?_)
 refine Z28 ?_
 refine cf (by exact rfl) ?_ (by simp)
 repeat' first | refine s_ ?_ | fail
 refine cn (by exact rfl) q40 (r' := .agg (ChA c p0 6 7 8 9 10 11)) (mem' := (chD c :: [.d (.int .i64 5), .d (.bool false), .d (.int .i64 ix), .d (.int .i64 at_)] :: zcel :: unk 10 :: unk 10 :: unk 5 :: ChR c p0)) ?_ rfl (by rw [List.map_append, ChR_rens]; rfl)
 repeat' first | refine s_ ?_ | fail
 refine Z0 ?_
 refine (show GF _ _ _ _ ⟨_, ChA c p0 6 7 8 9 10 11 :: [.d (.int .i64 5), .d (.bool false), .d (.int .i64 ix), .d (.int .i64 at_)] :: zcel :: unk 10 :: unk 10 :: unk 5 :: (ChR c p0 ++ [[.d .nilF, .d (.fn (.func 45) [] []), .d (.fn (.func 46) [] []), .d (.fn (.func 47) [] []), .d (.fn (.func 48) [] []), .d (.fn (.func 49) [] [])]])⟩ from ?_)
 refine tab5 5 51 [(0, 46, .ref 1 0), (1, 47, .d (.int .i64 5)), (2, 48, .ref 12 (0 + (5 : Int).toNat * 1)), (3, 49, .d (.fn (.func 49) [] [])), (4, 50, .d (.agg [.int .i64 5, .bool false, .int .i64 ix, .int .i64 at_]))] [(6, 8, .d (.int .i64 e))] [0, 1, 2, 3, 4, 6] (by exact rfl) (by exact rfl) (fun rest => rfl) hm p0_ok (fun a => ?_) (fun p' hp' => ?_)
 · refine ⟨?_, ?_, ?_, ?_, ?_, ?_, trivial⟩
   iterate 2 exact ta_
   · exact tav (pre := (47, .d (.int .i64 5)) :: [(2, .ref 0 0), (3, .ref 1 0), (4, .ref 2 0), (7, .ref 12 0)]) rfl rfl rfl rfl (by kernel_rfl) (fun _ => rfl) (fun rest ht => by exact Q_arrAddr (b := 12) (o := 0) (m := 1) (k := .i64) (i := 5) rfl rfl und91 (by kernel_rfl) (by decide) (by decide))
   · exact tav (pre := (48, .ref 12 (0 + (5 : Int).toNat * 1)) :: [(2, .ref 0 0), (3, .ref 1 0), (4, .ref 2 0), (7, .ref 12 0)]) rfl rfl rfl rfl (by kernel_rfl) (fun _ => rfl) (fun rest ht => by exact Q_load_leaf (b := 12) (off := 0 + (5 : Int).toNat * 1) (p := .d (.fn (.func 49) [] [])) rfl rfl rfl und88 rfl rfl rfl ht)
   · exact ta_
   · exact tq3 (by exact rfl) (by exact rfl) rfl rfl (by exact fun _ _ => rfl)
 · refine s_ ?_
   refine Z2 ?_
   repeat' first | refine s_ ?_ | fail
   refine d_ (fun hb => ?_) (fun hb => ?_)
   · have he : ¬ e = 0 := by simpa using hb
     rw [if_neg he]
     repeat' first | refine s_ ?_ | fail
     exact e_
   · have he : e = 0 := by simpa using hb
     subst he
     rw [if_pos rfl]
     refine Z7 ?_
     refine fg 12 (by exact rfl) ?_ rfl (by omega) (by show (PV.refsBs 12 (ChA c' p' 6 7 8 9 10 11) && (PV.refsBs 12 _ && (PV.refsBs 12 _ && (PV.refsBs 12 _ && (PV.refsBs 12 _ && (PV.refsBs 12 _ && (ChR c' p').all (PV.refsBs 12))))))) = true; rw [ChR_refs]; rfl)
     refine (show GF _ _ _ _ ⟨_, ChA c' p' 6 7 8 9 10 11 :: [.d (.int .i64 5), .d (.bool false), .d (.int .i64 ix), .d (.int .i64 at_)] :: zcel :: unk 10 :: unk 10 :: unk 5 :: ChR c' p'⟩ from ?_)
     refine gChD5 hp' ?_ (by show m0.length ≤ 6; omega)
     repeat' first | refine s_ ?_ | fail
     exact e_
set_option maxRecDepth 100000 in
theorem c21_5b (c c' : Ch) (ix at_ e : Int) (hc : c.Few) (hk : chkC c = false) (hm : Mt 49 [.ref 0 0, .d (acD 5 true ix at_)] c (.d (.int .i64 e)) c') : Pf Tryd.prog 21 [c.d, acD 5 true ix at_] (.tup [.d (if e = 0 then c' else zeroC).d, .d (.int .i64 e)]) := by
 have hc' := hc
 obtain ⟨g0, g1, g2, g3, g4, g5⟩ := hc'
 have q16 := c16 c (by omega) (by omega) (by omega) (by omega) (by omega) (by omega)
 rw [hk] at q16
 have q40 := c40 c hc
 have q44 := c44Db c 5 ix at_
 unfold acD at q44 hm ⊢
 unfold Ch.d at q16 q40 ⊢
 refine pfb Tryd.func21 Tryd.ntmps21 Tryd.results21 (fun S0 O0 w0 m0 hm0 => ?_)
 repeat' first | refine s_ ?_ | refine c_ q16 ?_ | fail
 refine Z10 ?_
 repeat' first | refine s_ ?_ | fail
 refine Z10 ?_
 repeat' first | refine s_ ?_ | fail
 have hgf : ((5 : Int) != 5 && decide (ix < 0) == false) = false := by simp
 refine Z30 ?_
 iterate 10 refine ov (hc := ?_)
 refine oStep (p := .when ((5 : Int) != 5 && decide (ix < 0) == false) (.d (.agg [.int .i64 5, .bool true, .int .i64 ix, .int .i64 at_]))) (by exact rfl) (by exact rfl) (by exact rfl) ?_ (fun rest _ hg => gSk _ (by exact rfl) hgf hg)
 refine oStep (p := .when ((5 : Int) != 5 && decide (ix < 0) == false) (.ref 0 9)) (by exact rfl) (by exact rfl) (by exact rfl) ?_ (fun rest _ hg => gSk _ (by exact rfl) hgf hg)
 iterate 6 refine ov (hc := ?_)
 refine Z28 ?_
 refine cf (by exact rfl) ?_ (by simp)
 repeat' first | refine s_ ?_ | fail
 refine cn (by exact rfl) q40 (r' := .agg (ChA c p0 6 7 8 9 10 11)) (mem' := (chD c :: [.d (.int .i64 5), .d (.bool true), .d (.int .i64 ix), .d (.int .i64 at_)] :: zcel :: unk 10 :: unk 10 :: unk 5 :: ChR c p0)) ?_ rfl (by rw [List.map_append, ChR_rens]; rfl)
 repeat' first | refine s_ ?_ | fail
 refine Z0 ?_
 refine (show GF _ _ _ _ ⟨_, ChA c p0 6 7 8 9 10 11 :: [.d (.int .i64 5), .d (.bool true), .d (.int .i64 ix), .d (.int .i64 at_)] :: zcel :: unk 10 :: unk 10 :: unk 5 :: (ChR c p0 ++ [[.d .nilF, .d (.fn (.func 45) [] []), .d (.fn (.func 46) [] []), .d (.fn (.func 47) [] []), .d (.fn (.func 48) [] []), .d (.fn (.func 49) [] [])]])⟩ from ?_)
 refine tab5 5 51 [(0, 46, .ref 1 0), (1, 47, .d (.int .i64 5)), (2, 48, .ref 12 (0 + (5 : Int).toNat * 1)), (3, 49, .d (.fn (.func 49) [] [])), (4, 50, .d (.agg [.int .i64 5, .bool true, .int .i64 ix, .int .i64 at_]))] [(6, 8, .d (.int .i64 e))] [0, 1, 2, 3, 4, 6] (by exact rfl) (by exact rfl) (fun rest => rfl) hm p0_ok (fun a => ?_) (fun p' hp' => ?_)
 · refine ⟨?_, ?_, ?_, ?_, ?_, ?_, trivial⟩
   iterate 2 exact ta_
   · exact tav (pre := (47, .d (.int .i64 5)) :: [(2, .ref 0 0), (3, .ref 1 0), (4, .ref 2 0), (7, .ref 12 0)]) rfl rfl rfl rfl (by kernel_rfl) (fun _ => rfl) (fun rest ht => by exact Q_arrAddr (b := 12) (o := 0) (m := 1) (k := .i64) (i := 5) rfl rfl und91 (by kernel_rfl) (by decide) (by decide))
   · exact tav (pre := (48, .ref 12 (0 + (5 : Int).toNat * 1)) :: [(2, .ref 0 0), (3, .ref 1 0), (4, .ref 2 0), (7, .ref 12 0)]) rfl rfl rfl rfl (by kernel_rfl) (fun _ => rfl) (fun rest ht => by exact Q_load_leaf (b := 12) (off := 0 + (5 : Int).toNat * 1) (p := .d (.fn (.func 49) [] [])) rfl rfl rfl und88 rfl rfl rfl ht)
   · exact ta_
   · exact tq3 (by exact rfl) (by exact rfl) rfl rfl (by exact fun _ _ => rfl)
 · refine s_ ?_
   refine Z2 ?_
   repeat' first | refine s_ ?_ | fail
   refine d_ (fun hb => ?_) (fun hb => ?_)
   · have he : ¬ e = 0 := by simpa using hb
     rw [if_neg he]
     repeat' first | refine s_ ?_ | fail
     exact e_
   · have he : e = 0 := by simpa using hb
     subst he
     rw [if_pos rfl]
     refine Z7 ?_
     refine fg 12 (by exact rfl) ?_ rfl (by omega) (by show (PV.refsBs 12 (ChA c' p' 6 7 8 9 10 11) && (PV.refsBs 12 _ && (PV.refsBs 12 _ && (PV.refsBs 12 _ && (PV.refsBs 12 _ && (PV.refsBs 12 _ && (ChR c' p').all (PV.refsBs 12))))))) = true; rw [ChR_refs]; rfl)
     refine (show GF _ _ _ _ ⟨_, ChA c' p' 6 7 8 9 10 11 :: [.d (.int .i64 5), .d (.bool true), .d (.int .i64 ix), .d (.int .i64 at_)] :: zcel :: unk 10 :: unk 10 :: unk 5 :: ChR c' p'⟩ from ?_)
     refine gChD5 hp' ?_ (by show m0.length ≤ 6; omega)
     repeat' first | refine s_ ?_ | fail
     exact e_
end
section
def flt (c : Ch) (b : Bool) : List ByteArray := if b = true then c.bak else c.tos
def actK (c : Ch) (k : Int) (b : Bool) (i : Nat) (at_ : Int) (x : ByteArray) : Ch × Int :=
 if k = 1 then (if b = true then ackC { c with bak := c.bak.eraseIdx i } x else rcvC { c with tos := c.tos.eraseIdx i } x, 0)
 else if k = 2 then (if b = true then { c with bak := c.bak.eraseIdx i } else { c with tos := c.tos.eraseIdx i }, 0)
 else if k = 3 then (if (flt c b).length = 200 then (zeroC, 5) else (if b = true then { c with bak := c.bak ++ [x] } else { c with tos := c.tos ++ [x] }, 0))
 else (if at_ < 0 ∨ at_ ≥ (x.size : Int) then (zeroC, 4) else (if b = true then { c with bak := c.bak.set i (x.extract 0 at_.toNat) } else { c with tos := c.tos.set i (x.extract 0 at_.toNat) }, 0))
def actS (c : Ch) (k : Int) (b : Bool) (ix at_ : Int) : Ch × Int :=
 if chkC c = true then (zeroC, 331)
 else if k < 1 ∨ 5 < k then (zeroC, 1)
 else if k = 5 then (tickC c, 0)
 else if ix < 0 ∨ ((flt c b).length : Int) ≤ ix then (zeroC, 4)
 else actK c k b ix.toNat at_ ((flt c b).getD ix.toNat ByteArray.empty)
def ActP (c : Ch) (k : Int) (b : Bool) (ix at_ : Int) (p : Ch × Int) : Prop := PL 21 [c.d, acD k b ix at_] (.tup [.d p.1.d, .d (.int .i64 p.2)])
theorem c21 (c : Ch) (k : Int) (b : Bool) (ix at_ : Int) (hs : c.Sm) : ActP c k b ix at_ (actS c k b ix at_) := by
 have hc := hs.few
 unfold actS
 cases hk : chkC c with
 | true => rw [if_pos rfl]; exact Pf.L (c21e1 c k b ix at_ hc hk)
 | false =>
  rw [if_neg (by decide)]
  have hr := rt_of hs hk
  by_cases h15 : k < 1 ∨ 5 < k
  · rw [if_pos h15]; exact Pf.L (c21e2 c k b ix at_ hc hk h15)
  rw [if_neg h15]
  by_cases h5 : k = 5
  · rw [if_pos h5]
    subst h5
    have hm := (c49 c (acD 5 b ix at_) ⟨5, b, ix, at_, rfl⟩ hc.una)
    cases b with
    | true => exact Pf.L (c21_5b c (tickC c) ix at_ 0 hc hk hm)
    | false => exact Pf.L (c21_5t c (tickC c) ix at_ 0 hc hk hm)
  rw [if_neg h5]
  by_cases hix : ix < 0 ∨ ((flt c b).length : Int) ≤ ix
  · rw [if_pos hix]
    cases b with
    | true => exact Pf.L (c21e3b c k ix at_ hc hk (by omega) (by omega) hix)
    | false => exact Pf.L (c21e3t c k ix at_ hc hk (by omega) (by omega) hix)
  rw [if_neg hix]
  obtain ⟨i, rfl⟩ : ∃ i : Nat, ix = (i : Int) := ⟨ix.toNat, by omega⟩
  rw [Int.toNat_natCast]
  have hif : i < (flt c b).length := by omega
  obtain ⟨x, hx⟩ : ∃ x, (flt c b)[i]? = some x := ⟨_, gE hif⟩
  rw [List.getD_eq_getElem?_getD, hx, Option.getD_some]
  have hi0 : (0 : Int) ≤ (i : Int) := by omega
  have hi1 : (i : Int) < ((flt c b).length : Int) := by omega
  have hk4 : k = 1 ∨ k = 2 ∨ k = 3 ∨ k = 4 := by omega
  have hrcv := rcv_of hs hr
  have hw : c.win ≤ 1000000 := hrcv.win1
  have hb0 := hr.base0
  have he1 : c.exp ≤ c.base + (c.una.length : Int) := by have := hr.exp1; have := hr.una; omega
  unfold actK
  cases b with
  | true =>
   have hx' : c.bak[i]? = some x := hx
   have hi1' : (i : Int) < (c.bak.length : Int) := hi1
   have hi' : i < c.bak.length := hif
   rcases hk4 with rfl | rfl | rfl | rfl
   · exact c21L_1b c _ i at_ 0 hc hk hi0 hi1' (c45b c 1 at_ i hx' hc hw hb0 he1)
   · exact c21L_2b c _ i at_ 0 hc hk hi0 hi1' (Mt.L (c46b c 2 at_ i hi' hc.bak))
   · have h := c21L_3b c _ i at_ _ hc hk hi0 hi1' (Mt.L (c47b c 3 at_ i hx' hc.bak))
     rw [if_neg (by decide), if_neg (by decide), if_pos rfl]
     show ActP _ _ _ _ _ (if c.bak.length = 200 then _ else _)
     by_cases h2 : c.bak.length = 200
     · rw [if_pos h2]
       rw [if_pos h2, if_pos h2] at h
       exact h
     · rw [if_neg h2]
       rw [if_neg h2, if_neg h2] at h
       exact h
   · have h := c21L_4b c _ i at_ _ hc hk hi0 hi1' (Mt.L (c48b c 4 at_ i hx'))
     rw [if_neg (by decide), if_neg (by decide), if_neg (by decide)]
     by_cases h2 : at_ < 0 ∨ at_ ≥ (x.size : Int)
     · rw [if_pos h2]
       rw [if_pos h2, if_pos h2] at h
       exact h
     · rw [if_neg h2]
       rw [if_neg h2, if_neg h2] at h
       exact h
  | false =>
   have hx' : c.tos[i]? = some x := hx
   have hi1' : (i : Int) < (c.tos.length : Int) := hi1
   have hi' : i < c.tos.length := hif
   rcases hk4 with rfl | rfl | rfl | rfl
   · exact c21L_1t c _ i at_ 0 hc hk hi0 hi1' (c45t c 1 at_ i hx' hc hrcv)
   · exact c21L_2t c _ i at_ 0 hc hk hi0 hi1' (Mt.L (c46t c 2 at_ i hi' hc.tos))
   · have h := c21L_3t c _ i at_ _ hc hk hi0 hi1' (Mt.L (c47t c 3 at_ i hx' hc.tos))
     rw [if_neg (by decide), if_neg (by decide), if_pos rfl]
     show ActP _ _ _ _ _ (if c.tos.length = 200 then _ else _)
     by_cases h2 : c.tos.length = 200
     · rw [if_pos h2]
       rw [if_pos h2, if_pos h2] at h
       exact h
     · rw [if_neg h2]
       rw [if_neg h2, if_neg h2] at h
       exact h
   · have h := c21L_4t c _ i at_ _ hc hk hi0 hi1' (Mt.L (c48t c 4 at_ i hx'))
     rw [if_neg (by decide), if_neg (by decide), if_neg (by decide)]
     by_cases h2 : at_ < 0 ∨ at_ ≥ (x.size : Int)
     · rw [if_pos h2]
       rw [if_pos h2, if_pos h2] at h
       exact h
     · rw [if_neg h2]
       rw [if_neg h2, if_neg h2] at h
       exact h
end
end Go.Proofs.YtoonleefemkalaaDoor
