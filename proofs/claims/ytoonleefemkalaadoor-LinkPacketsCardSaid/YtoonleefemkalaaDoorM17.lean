import Derived.Test.YtoonleefemkalaaDoorM16
import Derived.Test.YtoonleefemkalaaDoorM15
/- Contracts of functions. Conditions: none. -/
set_option linter.unusedSimpArgs false
set_option linter.unusedVariables false
set_option maxRecDepth 20000
namespace Go.Proofs.YtoonleefemkalaaDoor
open Go Go.Proofs.YtoonleefemkalaaDoor.E
def enB (p : Pk) : ByteArray := strOfNums ([114, 100, p.kd % 256] ++ be4 p.nu ++ be4 p.bo.size ++ [58]) ++ p.bo
def enC (p : Pk) : ByteArray := if p.right = true then enB p else ByteArray.empty
def enE (p : Pk) : Int := if p.right = true then 0 else 330
def u8s (l : List Int) : List PV := l.map fun v => .d (.int .u8 v)
theorem right_size {p : Pk} (h : p.right = true) : p.bo.size ≤ 200 := by
 unfold Pk.right at h
 rw [Bool.and_eq_true] at h
 have h2 := h.2
 cases hk : (p.kd == 1) with
 | true => rw [hk] at h2; simp at h2; omega
 | false =>
  rw [hk] at h2
  simp only [cond_false, Bool.and_eq_true, decide_eq_true_eq] at h2
  rw [h2.2]; decide
theorem c10 (p : Pk) : Pf Tryd.prog 10 [p.d] (.tup [.d (.str (enC p)), .d (.int .i64 (enE p))]) := by
 have q33 := c33 p
 have q34 := c34 p.nu
 have q34' := c34 (p.bo.size : Int)
 unfold Pk.d at q33 ⊢
 unfold enC enE
 refine pfb Tryd.func10 Tryd.ntmps10 Tryd.results10 (fun S0 O0 w0 m0 hm0 => ?_)
 repeat' (fail_if_success refine fz true (s := ⟨_, [_]⟩) (by exact rfl) ?_); first | refine st (by exact rfl) ?_ | fail
 refine Z9 ?_
 repeat' first | refine st (by exact rfl) ?_ | refine cl (by exact rfl) q33 ?_ | fail
 refine cd (by exact rfl) (fun hb => ?_) (fun hb => ?_)
 · have hr : p.right = false := by simpa using hb
   repeat' first | refine st (by exact rfl) ?_ | fail
   exact en (by exact rfl) (by rw [hr]; rfl)
 · have hr : p.right = true := by simpa using hb
   have hsz : p.bo.size ≤ 200 := right_size hr
   repeat' first | refine st (by exact rfl) ?_ | fail
   refine ow [4] [[u8s [114, 100, IntKind.u8.wrap p.kd, 0, 0, 0, 0, 0, 0, 0, 0, 58]], [u8s ([114, 100, IntKind.u8.wrap p.kd] ++ be4 p.nu ++ [0, 0, 0, 0, 58])]] (hc := ?_)
   refine qw 0 (hmm := rfl) (hs := rfl) (hj := rfl) (h := fun _ => rfl) (hq := fun rest _ _ => Q_sliceArr rfl rfl rfl rfl rfl u75 sz5 (by exact (by decide : 12 ≤ 12)) (by decide) (by decide) (by decide) (by decide)) (hc := ?_)
   refine Z1 ?_;refine Z1 ?_
   refine cw (hcl := q34) (hc := ?_)
   refine pw 0 (hm1 := rfl) (hm2 := rfl) (hs := rfl) (hj := rfl) (hop := rfl) (hy := fun rest => yCopy (ys := (be4 p.nu).map fun v => .int .u8 v) rfl rfl rfl rfl (by simp [D.cells]) (by simp [be4]) (by exact (by decide : 4 ≤ 4)) (by exact (by decide : 7 ≤ 12)) u76 sz5 (Nat.le_of_ble_eq_true rfl)) (hc := ?_)
   refine ew (hc := ?_)
   repeat' first | refine st (by exact rfl) ?_ | fail
   refine ow [5] [[u8s ([114, 100, IntKind.u8.wrap p.kd] ++ be4 p.nu ++ [0, 0, 0, 0, 58])], [u8s ([114, 100, IntKind.u8.wrap p.kd] ++ be4 p.nu ++ be4 p.bo.size ++ [58])]] (hc := ?_)
   refine qw 0 (hmm := rfl) (hs := rfl) (hj := rfl) (h := fun _ => rfl) (hq := fun rest _ _ => Q_sliceArr rfl rfl rfl rfl rfl u75 sz5 (by exact (by decide : 12 ≤ 12)) (by decide) (by decide) (by decide) (by decide)) (hc := ?_)
   refine Z1 ?_;refine Z1 ?_;refine Z1 ?_
   refine cw (hcl := q34') (hc := ?_)
   refine pw 0 (hm1 := rfl) (hm2 := rfl) (hs := rfl) (hj := rfl) (hop := rfl) (hy := fun rest => yCopy (ys := (be4 p.bo.size).map fun v => .int .u8 v) rfl rfl rfl rfl (by simp [D.cells]) (by simp [be4]) (by exact (by decide : 4 ≤ 4)) (by exact (by decide : 11 ≤ 12)) u76 sz5 (Nat.le_of_ble_eq_true rfl)) (hc := ?_)
   refine ew (hc := ?_)
   repeat' first | refine st (by exact rfl) ?_ | fail
   refine Z4 ?_
   refine oqw (hs := rfl) (hj := rfl) (h := fun _ => rfl) (hq := fun rest _ _ => Q_sliceArrAll rfl rfl rfl u75 sz5 (by exact (by decide : 12 ≤ 12)) (by decide) (by decide)) (hc := ?_)
   refine oqw (hs := rfl) (hj := rfl) (h := fun _ => rfl) (hq := fun rest _ _ => Q_rowStr (ns := [114, 100, IntKind.u8.wrap p.kd] ++ be4 p.nu ++ be4 p.bo.size ++ [58]) rfl rfl rfl rfl (by decide) rfl u76 u5 u9 rfl) (hc := ?_)
   iterate 2 refine ov (hc := ?_)
   refine oq (hcc := ?_) (hc := ?_)
   · show (strOfNums ([114, 100, IntKind.u8.wrap p.kd] ++ be4 p.nu ++ be4 p.bo.size ++ [58])).size + p.bo.size ≤ lim
     rw [strOfNums_size]
     show 12 + p.bo.size ≤ lim
     unfold lim
     omega
   iterate 2 refine ov (hc := ?_)
   refine Z5 ?_
   repeat' first | refine st (by exact rfl) ?_ | fail
   refine Z8 ?_
   rw [if_pos hr, if_pos hr]
   unfold enB
   rw [u8_wrap]
end Go.Proofs.YtoonleefemkalaaDoor
namespace Go.Proofs.YtoonleefemkalaaDoor
open Go Go.Proofs.YtoonleefemkalaaDoor.E
theorem strOfNums_append (a b : List Int) : strOfNums (a ++ b) = strOfNums a ++ strOfNums b := by
 apply ByteArray.ext
 simp [strOfNums, ByteArray.data_append]
def Pk.wrong (p : Pk) : Bool := (!(p.kd == 1) && !(p.kd == 2)) || decide (p.nu < 0) || decide (p.nu > 1000000000) || decide ((p.bo.size : Int) > 200) || (p.kd == 2 && !decide (p.bo = ByteArray.empty))
theorem wrong_eq (p : Pk) : p.wrong = !p.right := by
 have hs : decide (p.bo = ByteArray.empty) = true → decide ((p.bo.size : Int) > 200) = false := fun h => by rw [of_decide_eq_true h]; decide
 have hz : decide ((p.bo.size : Int) ≤ 200) = !decide ((p.bo.size : Int) > 200) := by
  by_cases h : (p.bo.size : Int) ≤ 200
  · rw [decide_eq_true h, decide_eq_false (by omega)]; rfl
  · rw [decide_eq_false h, decide_eq_true (by omega)]; rfl
 have hk : (p.kd == 1) = true → (p.kd == 2) = false := fun h => by rw [eq_of_beq h]; decide
 unfold Pk.wrong Pk.right
 rw [hz]
 generalize (p.kd == 1) = a at *
 generalize (p.kd == 2) = b at *
 generalize decide (p.bo = ByteArray.empty) = e at *
 generalize decide ((p.bo.size : Int) > 200) = z at *
 generalize decide (p.nu < 0) = x
 generalize decide (p.nu > 1000000000) = y
 cases a <;> cases b <;> cases e <;> cases z <;> cases x <;> cases y <;> simp_all
theorem c11 (p : Pk) : Pf Tryd.prog 11 [p.d] (.tup [.d (.str (enC p)), .d (.int .i64 (enE p))]) := by
 have hwe := wrong_eq p
 unfold Pk.wrong at hwe
 unfold Pk.d enC enE
 refine pfb Tryd.func11 Tryd.ntmps11 Tryd.results11 (fun S0 O0 w0 m0 hm0 => ?_)
 repeat' (fail_if_success refine fz true (s := ⟨_, [_]⟩) (by exact rfl) ?_); first | refine st (by exact rfl) ?_ | fail
 refine Z9 ?_
 repeat' first | refine st (by exact rfl) ?_ | fail
 refine cd (by exact rfl) (fun hb => ?_) (fun hb => ?_)
 · have hr : p.right = false := by
    have : (!p.right) = true := hwe.symm.trans hb
    simpa using this
   repeat' first | refine st (by exact rfl) ?_ | fail
   exact en (by exact rfl) (by rw [hr]; rfl)
 · have hr : p.right = true := by
    have : (!p.right) = false := hwe.symm.trans hb
    simpa using this
   have hsz := right_size hr
   have hnu : 0 ≤ p.nu ∧ p.nu ≤ 1000000000 := by
    unfold Pk.right at hr
    rw [Bool.and_eq_true] at hr
    have := hr.1
    simp only [Bool.not_eq_true', Bool.or_eq_false_iff, decide_eq_false_iff_not] at this
    omega
   have q35 := c35 p.nu hnu.1 hnu.2
   have q35' := c35 (p.bo.size : Int) (by omega) (by omega)
   repeat' first | refine st (by exact rfl) ?_ | fail
   refine Z4 ?_
   iterate 3 refine ov (hc := ?_)
   refine onl (hc := ?_)
   refine oqw (hs := rfl) (hj := rfl) (h := fun _ => rfl) (hq := fun rest _ _ => Q_listStrO (ns := [IntKind.u8.wrap p.kd]) rfl (List.cons_ne_nil _ _) u76 u5 u9) (hc := ?_)
   refine oq (hcc := ?_) (hc := ?_)
   · rw [strOfNums_size]; exact (by decide : 2 + 1 ≤ lim)
   iterate 2 refine ov (hc := ?_)
   refine oc (hcl := q35) (hc := ?_)
   refine oq (hcc := ?_) (hc := ?_)
   · rw [ByteArray.size_append, strOfNums_size, strOfNums_size]; exact (by decide : 2 + 1 + 4 ≤ lim)
   iterate 3 refine ov (hc := ?_)
   refine oc (hcl := q35') (hc := ?_)
   refine oq (hcc := ?_) (hc := ?_)
   · rw [ByteArray.size_append, ByteArray.size_append, strOfNums_size, strOfNums_size, strOfNums_size]; exact (by decide : 2 + 1 + 4 + 4 ≤ lim)
   refine oq (hcc := ?_) (hc := ?_)
   · rw [ByteArray.size_append, ByteArray.size_append, ByteArray.size_append, strOfNums_size, strOfNums_size, strOfNums_size]; exact (by decide : 2 + 1 + 4 + 4 + 1 ≤ lim)
   iterate 2 refine ov (hc := ?_)
   refine oq (hcc := ?_) (hc := ?_)
   · rw [ByteArray.size_append, ByteArray.size_append, ByteArray.size_append, ByteArray.size_append, strOfNums_size, strOfNums_size, strOfNums_size]
     show 2 + 1 + 4 + 4 + 1 + p.bo.size ≤ lim
     unfold lim
     omega
   iterate 2 refine ov (hc := ?_)
   refine Z5 ?_
   repeat' first | refine st (by exact rfl) ?_ | fail
   refine Z8 ?_
   rw [if_pos hr, if_pos hr]
   unfold enB
   rw [strOfNums_append, strOfNums_append, strOfNums_append, show ([114, 100, p.kd % 256] : List Int) = [114, 100] ++ [p.kd % 256] from rfl, strOfNums_append, u8_wrap]
   rfl
end Go.Proofs.YtoonleefemkalaaDoor
namespace Go.Proofs.YtoonleefemkalaaDoor
open Go Go.Proofs.YtoonleefemkalaaDoor.E
theorem bytes_head (s : ByteArray) (h : 12 ≤ s.size) : bytesD (s.extract 0 12) = [.int .u8 (byt s 0), .int .u8 (byt s 1), .int .u8 (byt s 2), .int .u8 (byt s 3), .int .u8 (byt s 4), .int .u8 (byt s 5), .int .u8 (byt s 6), .int .u8 (byt s 7), .int .u8 (byt s 8), .int .u8 (byt s 9), .int .u8 (byt s 10), .int .u8 (byt s 11)] := by
 refine List.ext_getElem? fun i => ?_
 by_cases hi : i < 12
 · have hl : (s.extract 0 12).size = 12 := by simp [ByteArray.size_extract]; omega
   have hil : i < (bytesD (s.extract 0 12)).length := by rw [bytesD_length, hl]; exact hi
   rw [List.getElem?_eq_getElem hil]
   have e : (bytesD (s.extract 0 12))[i] = .int .u8 (byt s i) := by
    have hd : i < (s.extract 0 12).data.toList.length := by rw [bytes_len, hl]; exact hi
    have h0 : (bytesD (s.extract 0 12))[i]? = some (.int .u8 (((s.extract 0 12).data.toList[i]'hd).toNat : Int)) := by
     unfold bytesD
     rw [List.getElem?_map, List.getElem?_eq_getElem hd]; rfl
    have h1 := List.getElem?_eq_getElem hil
    rw [h0] at h1
    injection h1 with h1
    rw [← h1]
    unfold byt
    have h2 : s[i]! = s[i]'(by omega) := getElem!_pos s i (by omega)
    rw [h2]
    congr 3
    simp [ByteArray.data_extract]
    rfl
   rw [e]
   match i, hi with
   | 0, _ => rfl
   | 1, _ => rfl
   | 2, _ => rfl
   | 3, _ => rfl
   | 4, _ => rfl
   | 5, _ => rfl
   | 6, _ => rfl
   | 7, _ => rfl
   | 8, _ => rfl
   | 9, _ => rfl
   | 10, _ => rfl
   | 11, _ => rfl
   | n + 12, h => omega
 · rw [List.getElem?_eq_none (by rw [bytesD_length]; simp [ByteArray.size_extract]; omega), List.getElem?_eq_none (by simp; omega)]
def hdP (s : ByteArray) : Pk := ⟨byt s 2, nb4 (byt s 3) (byt s 4) (byt s 5) (byt s 6), s.extract 12 s.size⟩
def zeroP : Pk := ⟨0, 0, ByteArray.empty⟩
def deW (s : ByteArray) : Bool := byt s 0 != 114 || byt s 1 != 100 || byt s 11 != 58 || nb4 (byt s 7) (byt s 8) (byt s 9) (byt s 10) != ((s.extract 12 s.size).size : Int) || !(hdP s).right
def deP (s : ByteArray) : Pk := if s.size < 12 then zeroP else if deW s = true then zeroP else hdP s
def deE (s : ByteArray) : Int := if s.size < 12 then 330 else if deW s = true then 330 else 0
theorem c12 (s : ByteArray) : Pf Tryd.prog 12 [.str s] (.tup [.d (deP s).d, .d (.int .i64 (deE s))]) := by
 unfold deP deE
 refine pfb Tryd.func12 Tryd.ntmps12 Tryd.results12 (fun S0 O0 w0 m0 hm0 => ?_)
 repeat' first | refine st (by exact rfl) ?_ | fail
 refine cd (by exact rfl) (fun hb => ?_) (fun hb => ?_)
 · have hlt : s.size < 12 := by have := of_decide_eq_true hb; omega
   repeat' first | refine st (by exact rfl) ?_ | fail
   exact en (by exact rfl) (by rw [if_pos hlt, if_pos hlt]; rfl)
 · have hge : 12 ≤ s.size := by have := of_decide_eq_false hb; omega
   have hn : ¬ s.size < 12 := by omega
   have hbd := bytes_head s hge
   have q36 := c36 _ _ _ _ (byt_lt s 3) (byt_lt s 4) (byt_lt s 5) (byt_lt s 6)
   have q36' := c36 _ _ _ _ (byt_lt s 7) (byt_lt s 8) (byt_lt s 9) (byt_lt s 10)
   have hw2 : IntKind.i64.wrap (byt s 2) = byt s 2 := wrap_small (byt_lt s 2).1 (by have := (byt_lt s 2).2; omega)
   have q33 := c33 (hdP s)
   unfold Pk.d at q33
   have e1 : (hdP s).kd = IntKind.i64.wrap (byt s 2) := hw2.symm
   rw [e1] at q33
   repeat' first | refine st (by exact rfl) ?_ | fail
   refine qu (by exact rfl) (show _ ∧ _ from ⟨by decide, by omega⟩) ?_
   refine gyl rfl rfl (Y_strbytes (b := s.extract 0 12) rfl u9 u76 u5 (by rw [ByteArray.size_extract]; unfold lim; omega) (Nat.le_of_ble_eq_true rfl)) ?_
   rw [hbd]
   dsimp only [GS.set]
   refine gq (by exact rfl) (fun _ _ => Q_listArr (xs := [.int .u8 (byt s 0), .int .u8 (byt s 1), .int .u8 (byt s 2), .int .u8 (byt s 3), .int .u8 (byt s 4), .int .u8 (byt s 5), .int .u8 (byt s 6), .int .u8 (byt s 7), .int .u8 (byt s 8), .int .u8 (byt s 9), .int .u8 (byt s 10), .int .u8 (byt s 11)]) rfl u75 rfl (List.cons_ne_nil _ _) (fun x hx => by
    simp only [List.mem_cons, List.not_mem_nil, or_false] at hx
    rcases hx with rfl | rfl | rfl | rfl | rfl | rfl | rfl | rfl | rfl | rfl | rfl | rfl <;> exact ⟨_, _, rfl⟩)) ?_
   repeat' first | refine st (by exact rfl) ?_ | fail
   refine ow [10, 11] [[[.d (.int .i64 0), .d (.int .i64 0), .d (.str ByteArray.empty)], [.d (.int .u8 (byt s 0)), .d (.int .u8 (byt s 1)), .d (.int .u8 (byt s 2)), .d (.int .u8 (byt s 3)), .d (.int .u8 (byt s 4)), .d (.int .u8 (byt s 5)), .d (.int .u8 (byt s 6)), .d (.int .u8 (byt s 7)), .d (.int .u8 (byt s 8)), .d (.int .u8 (byt s 9)), .d (.int .u8 (byt s 10)), .d (.int .u8 (byt s 11))]], [[.d (.int .i64 0), .d (.int .i64 0), .d (.str ByteArray.empty)], [.d (.int .u8 (byt s 0)), .d (.int .u8 (byt s 1)), .d (.int .u8 (byt s 2)), .d (.int .u8 (byt s 3)), .d (.int .u8 (byt s 4)), .d (.int .u8 (byt s 5)), .d (.int .u8 (byt s 6)), .d (.int .u8 (byt s 7)), .d (.int .u8 (byt s 8)), .d (.int .u8 (byt s 9)), .d (.int .u8 (byt s 10)), .d (.int .u8 (byt s 11))], [.d (.int .i64 0), .d (.int .i64 0), .d (.str ByteArray.empty)]], [[.d (.int .i64 0), .d (.int .i64 0), .d (.str ByteArray.empty)], [.d (.int .u8 (byt s 0)), .d (.int .u8 (byt s 1)), .d (.int .u8 (byt s 2)), .d (.int .u8 (byt s 3)), .d (.int .u8 (byt s 4)), .d (.int .u8 (byt s 5)), .d (.int .u8 (byt s 6)), .d (.int .u8 (byt s 7)), .d (.int .u8 (byt s 8)), .d (.int .u8 (byt s 9)), .d (.int .u8 (byt s 10)), .d (.int .u8 (byt s 11))], [.d (.int .i64 (IntKind.i64.wrap (byt s 2))), .d (.int .i64 (nb4 (byt s 3) (byt s 4) (byt s 5) (byt s 6))), .d (.str (s.extract 12 s.size))]]] (hc := ?_)
   refine qiw (hs := rfl) (hj := rfl) (h := fun _ => rfl) (p := .ref 1 (0 + Int.toNat 2 * 1)) (hq := fun rest X hX _ _ => Q_arrAddr (o := 0) (i := 2) (m := 1) rfl rfl u75 sz5 (by decide) (by decide)) (hc := ?_)
   refine iw (ob := []) (p := .d (.int .u8 (byt s 2))) (h := fun rest X hX => by (simp only [List.mem_cons, List.not_mem_nil, or_false] at hX; rcases hX with rfl | rfl | rfl <;> rfl)) (hc := ?_)
   refine Z1 ?_
   refine qiw (hs := rfl) (hj := rfl) (h := fun _ => rfl) (p := .rsl 1 (Int.toNat 3) (Int.toNat 7 - Int.toNat 3) 1) (hq := fun rest X hX _ _ => by (simp only [List.mem_cons, List.not_mem_nil, or_false] at hX; rcases hX with rfl | rfl | rfl <;> exact Q_sliceArr (i := 3) (j := 7) rfl rfl rfl rfl rfl u75 sz5 (by exact (by decide : 12 ≤ 12)) (by decide) (by decide) (by decide) (by decide))) (hc := ?_)
   refine qiw (hs := rfl) (hj := rfl) (h := fun _ => rfl) (p := .ref 1 3) (hq := fun rest X hX _ _ => Q_rowArr (n := 4) rfl u80 (by decide) (by decide)) (hc := ?_)
   refine iw (ob := []) (p := .d (.agg [.int .u8 (byt s 3), .int .u8 (byt s 4), .int .u8 (byt s 5), .int .u8 (byt s 6)])) (h := fun rest X hX => by (simp only [List.mem_cons, List.not_mem_nil, or_false] at hX; rcases hX with rfl | rfl | rfl <;> rfl)) (hc := ?_)
   refine cw (hcl := q36) (hc := ?_)
   refine Z1 ?_
   refine bw (hcc := show _ ∧ _ from ⟨by decide, by omega⟩) (hc := ?_)
   refine Z1 ?_
   refine mw 0 (hc := ?_)
   refine sw 1 (hc := ?_)
   refine ew (hc := ?_)
   repeat' first | refine st (by exact rfl) ?_ | fail
   refine Z4 ?_;refine Z2 ?_
   iterate 3 refine ov (hc := ?_)
   refine Z2 ?_
   iterate 4 refine ov (hc := ?_)
   refine Z2 ?_
   iterate 4 refine ov (hc := ?_)
   refine oqw (hs := rfl) (hj := rfl) (h := fun _ => rfl) (hq := fun rest _ _ => Q_sliceArr rfl rfl rfl rfl rfl u75 sz5 (by exact (by decide : 12 ≤ 12)) (by decide) (by decide) (by decide) (by decide)) (hc := ?_)
   refine oqw (hs := rfl) (hj := rfl) (h := fun _ => rfl) (hq := fun rest _ _ => Q_rowArr rfl u80 (by decide) (by decide)) (hc := ?_)
   refine Z7 ?_
   refine ocg (hcl := fun _ => q36') (hc := ?_)
   iterate 7 refine ov (hc := ?_)
   refine ocg (hcl := fun _ => q33) (hc := ?_)
   iterate 2 refine ov (hc := ?_)
   refine Z5 ?_
   repeat' first | refine st (by exact rfl) ?_ | fail
   refine cd (by exact rfl) (fun hb2 => ?_) (fun hb2 => ?_)
   · have hr : deW s = true := hb2
     repeat' first | refine st (by exact rfl) ?_ | fail
     exact en (by exact rfl) (by rw [if_neg hn, if_neg hn, if_pos hr, if_pos hr]; rfl)
   · have hr : ¬ deW s = true := fun h => by
      have : deW s = false := hb2
      rw [h] at this; cases this
     repeat' first | refine st (by exact rfl) ?_ | fail
     refine Z8 ?_
     rw [if_neg hn, if_neg hn, if_neg hr, if_neg hr]
     show PV.tup [.d (.agg [.int .i64 (IntKind.i64.wrap (byt s 2)), _, _]), _] = _
     rw [hw2]
     rfl
end Go.Proofs.YtoonleefemkalaaDoor
namespace Go.Proofs.YtoonleefemkalaaDoor
open Go Go.Proofs.YtoonleefemkalaaDoor.E
theorem byt_part (s : ByteArray) (i : Nat) (hi : i < 4) (h : 12 ≤ s.size) : byt (s.extract 3 7) i = byt s (3 + i) := by
 have h1 : i < (s.extract 3 7).size := by simp [ByteArray.size_extract]; omega
 unfold byt
 rw [getElem!_pos (s.extract 3 7) i h1, getElem!_pos s (3 + i) (by omega)]
 congr 2
 simp [ByteArray.getElem_extract]
def deWR (s : ByteArray) : Bool := enE (hdP s) != 0 || !decide (enC (hdP s) = s)
def deRP (s : ByteArray) : Pk := if s.size < 12 then zeroP else if deWR s = true then zeroP else hdP s
def deRE (s : ByteArray) : Int := if s.size < 12 then 330 else if deWR s = true then 330 else 0
theorem c13 (s : ByteArray) : Pf Tryd.prog 13 [.str s] (.tup [.d (deRP s).d, .d (.int .i64 (deRE s))]) := by
 unfold deRP deRE
 refine pfb Tryd.func13 Tryd.ntmps13 Tryd.results13 (fun S0 O0 w0 m0 hm0 => ?_)
 repeat' first | refine st (by exact rfl) ?_ | fail
 refine cd (by exact rfl) (fun hb => ?_) (fun hb => ?_)
 · have hlt : s.size < 12 := by have := of_decide_eq_true hb; omega
   repeat' first | refine st (by exact rfl) ?_ | fail
   exact en (by exact rfl) (by rw [if_pos hlt, if_pos hlt]; rfl)
 · have hge : 12 ≤ s.size := by have := of_decide_eq_false hb; omega
   have hn : ¬ s.size < 12 := by omega
   have q37 := c37 (s.extract 3 7) (by simp [ByteArray.size_extract]; omega)
   rw [byt_part s 0 (by decide) hge, byt_part s 1 (by decide) hge, byt_part s 2 (by decide) hge, byt_part s 3 (by decide) hge] at q37
   have hw2 : IntKind.i64.wrap (byt s 2) = byt s 2 := wrap_small (byt_lt s 2).1 (by have := (byt_lt s 2).2; omega)
   have q11 := c11 (hdP s)
   unfold Pk.d at q11
   have e1 : (hdP s).kd = IntKind.i64.wrap (byt s 2) := hw2.symm
   rw [e1] at q11
   repeat' first | refine st (by exact rfl) ?_ | fail
   refine ow [9, 10] [[[.d (.int .i64 0), .d (.int .i64 0), .d (.str ByteArray.empty)]], [[.d (.int .i64 0), .d (.int .i64 0), .d (.str ByteArray.empty)], [.d (.int .i64 0), .d (.int .i64 0), .d (.str ByteArray.empty)]], [[.d (.int .i64 0), .d (.int .i64 0), .d (.str ByteArray.empty)], [.d (.int .i64 (IntKind.i64.wrap (byt s 2))), .d (.int .i64 (nb4 (byt s 3) (byt s 4) (byt s 5) (byt s 6))), .d (.str (s.extract 12 s.size))]]] (hc := ?_)
   refine Z1 ?_
   refine bw (hcc := show _ ∧ _ from ⟨by decide, by omega⟩) (hc := ?_)
   refine Z1 ?_;refine Z1 ?_
   refine qiw (hs := rfl) (hj := rfl) (h := fun _ => rfl) (p := .d (.str (s.extract 3 7))) (hq := fun rest X hX _ _ => Q_strlh (i := 3) (j := 7) rfl rfl rfl u9 (by decide) (by decide) (by omega)) (hc := ?_)
   refine cw (hcl := q37) (hc := ?_)
   refine Z1 ?_
   refine bw (hcc := show _ ∧ _ from ⟨by decide, by omega⟩) (hc := ?_)
   refine Z1 ?_
   refine mw 0 (hc := ?_)
   refine sw 1 (hc := ?_)
   refine ew (hc := ?_)
   repeat' first | refine st (by exact rfl) ?_ | refine cl (by exact rfl) q11 ?_ | fail
   refine cd (by exact rfl) (fun hb2 => ?_) (fun hb2 => ?_)
   · have hr : deWR s = true := hb2
     repeat' first | refine st (by exact rfl) ?_ | fail
     exact en (by exact rfl) (by rw [if_neg hn, if_neg hn, if_pos hr, if_pos hr]; rfl)
   · have hr : ¬ deWR s = true := fun h => by
      have : deWR s = false := hb2
      rw [h] at this; cases this
     repeat' first | refine st (by exact rfl) ?_ | fail
     refine Z8 ?_
     rw [if_neg hn, if_neg hn, if_neg hr, if_neg hr]
     show PV.tup [.d (.agg [.int .i64 (IntKind.i64.wrap (byt s 2)), _, _]), _] = _
     rw [hw2]
     rfl
end Go.Proofs.YtoonleefemkalaaDoor
namespace Go.Proofs.YtoonleefemkalaaDoor
open Go Go.Proofs.YtoonleefemkalaaDoor.E
def decD : D → UInt8
 | .int _ n => UInt8.ofNat n.toNat
 | _ => 0
theorem head_eq (s : ByteArray) (h : 12 ≤ s.size) : s.extract 0 12 = strOfNums [byt s 0, byt s 1, byt s 2, byt s 3, byt s 4, byt s 5, byt s 6, byt s 7, byt s 8, byt s 9, byt s 10, byt s 11] := by
 have h1 := congrArg (List.map decD) (bytes_head s h)
 unfold bytesD at h1
 rw [List.map_map, show (decD ∘ fun c : UInt8 => D.int .u8 (c.toNat : Int)) = id from funext fun c => by simp [decD], List.map_id] at h1
 apply ByteArray.ext
 apply Array.toList_inj.1
 rw [h1, strOfNums_data]
 rfl
theorem strOfNums_inj : ∀ (a b : List Int), (∀ x ∈ a, 0 ≤ x ∧ x < 256) → (∀ x ∈ b, 0 ≤ x ∧ x < 256) → (strOfNums a).data.toList = (strOfNums b).data.toList → a = b := by
 intro a b ha hb h
 rw [strOfNums_data, strOfNums_data] at h
 have hl : a.length = b.length := by have := congrArg List.length h; simpa using this
 refine List.ext_getElem hl fun i h1 h2 => ?_
 have h3 := congrArg (fun l => l[i]?) h
 simp only [List.getElem?_map, List.getElem?_eq_getElem h1, List.getElem?_eq_getElem h2, Option.map_some, Option.some.injEq] at h3
 have h4 := congrArg UInt8.toNat h3
 have ha' := ha _ (List.getElem_mem h1)
 have hb' := hb _ (List.getElem_mem h2)
 rw [UInt8.toNat_ofNat', UInt8.toNat_ofNat'] at h4
 omega
theorem be4_nb4 (a b c d : Int) (ha : 0 ≤ a ∧ a < 256) (hb : 0 ≤ b ∧ b < 256) (hc : 0 ≤ c ∧ c < 256) (hd : 0 ≤ d ∧ d < 256) : be4 (nb4 a b c d) = [a, b, c, d] := by
 unfold be4 nb4
 rw [show (((a * 256 + b) * 256 + c) * 256 + d) / 16777216 % 256 = a by omega, show (((a * 256 + b) * 256 + c) * 256 + d) / 65536 % 256 = b by omega, show (((a * 256 + b) * 256 + c) * 256 + d) / 256 % 256 = c by omega, show (((a * 256 + b) * 256 + c) * 256 + d) % 256 = d by omega]
theorem nb4_be4 {n a b c d : Int} (h0 : 0 ≤ n) (h1 : n < 4294967296) (h : be4 n = [a, b, c, d]) : nb4 a b c d = n := by
 unfold be4 at h
 simp only [List.cons.injEq, and_true] at h
 obtain ⟨rfl, rfl, rfl, rfl⟩ := h
 unfold nb4; omega
theorem be4_lt (n : Int) : ∀ x ∈ be4 n, 0 ≤ x ∧ x < 256 := fun x hx => by
 unfold be4 at hx
 simp only [List.mem_cons, List.not_mem_nil, or_false] at hx
 rcases hx with rfl | rfl | rfl | rfl <;> omega
theorem de_eq (s : ByteArray) (h : 12 ≤ s.size) : deWR s = deW s := by
 have hs : s = strOfNums [byt s 0, byt s 1, byt s 2, byt s 3, byt s 4, byt s 5, byt s 6, byt s 7, byt s 8, byt s 9, byt s 10, byt s 11] ++ s.extract 12 s.size := by
  rw [← head_eq s h, ByteArray.extract_append_extract]; simp
 unfold deWR deW
 by_cases hr : (hdP s).right = true
 · have hE : enE (hdP s) = 0 := by unfold enE; rw [if_pos hr]
   have hC : enC (hdP s) = enB (hdP s) := by unfold enC; rw [if_pos hr]
   have hsz := right_size hr
   have hbo : (hdP s).bo = s.extract 12 s.size := rfl
   have hk2 := byt_lt s 2
   have iff1 : enB (hdP s) = s ↔ (byt s 0 = 114 ∧ byt s 1 = 100 ∧ byt s 11 = 58 ∧ nb4 (byt s 7) (byt s 8) (byt s 9) (byt s 10) = ((s.extract 12 s.size).size : Int)) := by
    have hX : enB (hdP s) = strOfNums ([114, 100, byt s 2] ++ be4 (nb4 (byt s 3) (byt s 4) (byt s 5) (byt s 6)) ++ be4 (s.extract 12 s.size).size ++ [58]) ++ s.extract 12 s.size := by
     unfold enB
     show strOfNums ([114, 100, byt s 2 % 256] ++ _ ++ _ ++ _) ++ _ = _
     rw [show byt s 2 % 256 = byt s 2 by omega]; rfl
    rw [be4_nb4 _ _ _ _ (byt_lt s 3) (byt_lt s 4) (byt_lt s 5) (byt_lt s 6)] at hX
    rw [hX]
    constructor
    · intro he
      have he2 := he.trans hs
      have he3 := congrArg (fun b : ByteArray => b.data.toList) he2
      simp only [ByteArray.data_append, Array.toList_append, List.append_left_inj] at he3
      have he4 := strOfNums_inj _ _ (fun x hx => by
       simp only [List.mem_append, List.mem_cons, List.not_mem_nil, or_false] at hx
       rcases hx with (((rfl | rfl | rfl) | rfl | rfl | rfl | rfl) | hx) | rfl
       · decide
       · decide
       · exact hk2
       · exact byt_lt s 3
       · exact byt_lt s 4
       · exact byt_lt s 5
       · exact byt_lt s 6
       · exact be4_lt _ x hx
       · decide) (fun x hx => by
       simp only [List.mem_cons, List.not_mem_nil, or_false] at hx
       rcases hx with rfl | rfl | rfl | rfl | rfl | rfl | rfl | rfl | rfl | rfl | rfl | rfl <;> exact byt_lt s _) he3
      have he5 : be4 (s.extract 12 s.size).size = [byt s 7, byt s 8, byt s 9, byt s 10] := by
       have := congrArg (fun l => (l.drop 7).take 4) he4
       exact this
      have h0 := congrArg (fun l => l[0]?) he4
      have h1 := congrArg (fun l => l[1]?) he4
      have h2 := congrArg (fun l => l[11]?) he4
      refine ⟨(Option.some.inj h0).symm, (Option.some.inj h1).symm, (Option.some.inj (show some (58 : Int) = some (byt s 11) from h2)).symm, nb4_be4 (by omega) (by rw [← hbo]; omega) he5⟩
    · rintro ⟨h0, h1, h2, h3⟩
      rw [← h3, be4_nb4 _ _ _ _ (byt_lt s 7) (byt_lt s 8) (byt_lt s 9) (byt_lt s 10)]
      conv => rhs; rw [hs]
      rw [h0, h1, h2]
      rfl
   rw [hE, hC, hr]
   by_cases he : enB (hdP s) = s
   · obtain ⟨h0, h1, h2, h3⟩ := iff1.1 he
     rw [decide_eq_true he, h0, h1, h2, h3]; simp
   · rw [decide_eq_false he]
     have hne : ¬ (byt s 0 = 114 ∧ byt s 1 = 100 ∧ byt s 11 = 58 ∧ nb4 (byt s 7) (byt s 8) (byt s 9) (byt s 10) = ((s.extract 12 s.size).size : Int)) := fun h => he (iff1.2 h)
     simp only [Bool.not_false, Bool.or_true, Bool.not_true, Bool.or_false]
     refine (eq_true_of_ne_false fun hf => ?_).symm
     simp only [Bool.or_eq_false_iff, bne_eq_false_iff_eq] at hf
     exact hne ⟨hf.1.1.1, hf.1.1.2, hf.1.2, hf.2⟩
 · have hr' : (hdP s).right = false := by simpa using hr
   have hE : enE (hdP s) = 330 := by unfold enE; rw [if_neg hr]
   rw [hE, hr']; simp
theorem deRP_eq (s : ByteArray) : deRP s = deP s := by
 unfold deRP deP
 by_cases h : s.size < 12
 · rw [if_pos h, if_pos h]
 · rw [if_neg h, if_neg h, de_eq s (by omega)]
theorem deRE_eq (s : ByteArray) : deRE s = deE s := by
 unfold deRE deE
 by_cases h : s.size < 12
 · rw [if_pos h, if_pos h]
 · rw [if_neg h, if_neg h, de_eq s (by omega)]
end Go.Proofs.YtoonleefemkalaaDoor
namespace Go.Proofs.YtoonleefemkalaaDoor
open Go Go.Proofs.YtoonleefemkalaaDoor.E
theorem c56 (xs : List D) (hk : ∀ x ∈ xs, x.cells.length = 1) (hl : xs.length ≤ 1000000) : Gm Tryd.prog 56 [.d (.sl xs)] [] (.rsl 0 0 xs.length 1) [flat xs] := by
 cases xs with
 | nil =>
  refine gmB 0 Tryd.func56 Tryd.ntmps56 Tryd.results56 (fun S0 O0 w0 m0 hm0 => ?_)
  repeat' first | refine st (by exact rfl) ?_ | fail
  refine toO (g_sleqU u35 rfl (fun b => ofO ?_))
  repeat' first | refine st (by exact rfl) ?_ | fail
  refine cd (by exact rfl) (fun hb => ?_) (fun hb => ?_)
  · repeat' (fail_if_success refine gLe (c := .ops _ []) (Le_nilrowA 2 1 rfl) ?_ rfl); first | refine st (by exact rfl) ?_ | fail
    refine gLe (c := .ops _ []) (Le_nilrowA 2 1 rfl) ?_ rfl
    repeat' first | refine st (by exact rfl) ?_ | fail
    refine Z6 ?_
    exact .cons .nil .nil
  · repeat' first | refine st (by exact rfl) ?_ | fail
    refine gyl rfl rfl (y_buildSlice0 u35 inf9) ?_
    dsimp only [GS.set]
    refine Z3 ?_
    refine gyl rfl rfl (Y_appendN (ys := []) rfl rfl hk (by decide) u35 inf9 (by rfl) (by simp [Value.cells, Value.oneCell']) (by unfold lim; simp only [List.length_cons, List.length_nil]; omega) (by unfold lim; simp only [List.length_cons, List.length_nil]; omega) (Nat.le_of_ble_eq_true rfl)) ?_
    dsimp only [List.length_nil, List.nil_append, List.map_nil]
    repeat' first | refine st (by exact rfl) ?_ | fail
    refine Z6 ?_
    exact .cons .nil .nil
 | cons c r =>
  simp only [List.length_cons] at hl
  refine gmB 0 Tryd.func56 Tryd.ntmps56 Tryd.results56 (fun S0 O0 w0 m0 hm0 => ?_)
  repeat' first | refine st (by exact rfl) ?_ | fail
  refine toO (vq rfl ((q_sleql u35)) (ofO ?_))
  repeat' first | refine cf (by exact rfl) ?_ rfl | refine st (by exact rfl) ?_ | fail
  refine gyl rfl rfl (y_buildSlice0 u35 inf9) ?_
  dsimp only [GS.set]
  refine Z3 ?_
  refine gyl rfl rfl (Y_appendN (ys := (c :: r)) rfl rfl hk (by decide) u35 inf9 (by rfl) (by simp [Value.cells, Value.oneCell']) (by unfold lim; simp only [List.length_cons, List.length_nil]; omega) (by unfold lim; simp only [List.length_cons, List.length_nil]; omega) (Nat.le_of_ble_eq_true rfl)) ?_
  dsimp only [List.length_nil, List.nil_append, List.map_nil]
  repeat' first | refine st (by exact rfl) ?_ | fail
  refine enm (mem' := [flat (c :: r)]) (by exact rfl) rfl ?_
  exact .cons (CSub_flat _ _) .nil
theorem c57 (xs : List D) (hk : ∀ x ∈ xs, x.cells.length = 3) (hl : xs.length ≤ 1000000) : Gm Tryd.prog 57 [.d (.sl xs)] [] (.rsl 0 0 xs.length 3) [flat xs] := by
 cases xs with
 | nil =>
  refine gmB 0 Tryd.func57 Tryd.ntmps57 Tryd.results57 (fun S0 O0 w0 m0 hm0 => ?_)
  repeat' first | refine st (by exact rfl) ?_ | fail
  refine toO (g_sleqU u42 rfl (fun b => ofO ?_))
  repeat' first | refine st (by exact rfl) ?_ | fail
  refine cd (by exact rfl) (fun hb => ?_) (fun hb => ?_)
  · repeat' (fail_if_success refine gLe (c := .ops _ []) (Le_nilrowA 2 3 rfl) ?_ rfl); first | refine st (by exact rfl) ?_ | fail
    refine gLe (c := .ops _ []) (Le_nilrowA 2 3 rfl) ?_ rfl
    repeat' first | refine st (by exact rfl) ?_ | fail
    refine Z6 ?_
    exact .cons .nil .nil
  · repeat' first | refine st (by exact rfl) ?_ | fail
    refine gyl rfl rfl (y_buildSlice0 u42 inf28) ?_
    dsimp only [GS.set]
    refine Z3 ?_
    refine gyl rfl rfl (Y_appendN (ys := []) rfl rfl hk (by decide) u42 inf28 (by rfl) (by simp [Value.cells, Value.oneCell']) (by unfold lim; simp only [List.length_cons, List.length_nil]; omega) (by unfold lim; simp only [List.length_cons, List.length_nil]; omega) (Nat.le_of_ble_eq_true rfl)) ?_
    dsimp only [List.length_nil, List.nil_append, List.map_nil]
    repeat' first | refine st (by exact rfl) ?_ | fail
    refine Z6 ?_
    exact .cons .nil .nil
 | cons c r =>
  simp only [List.length_cons] at hl
  refine gmB 0 Tryd.func57 Tryd.ntmps57 Tryd.results57 (fun S0 O0 w0 m0 hm0 => ?_)
  repeat' first | refine st (by exact rfl) ?_ | fail
  refine toO (vq rfl ((q_sleql u42)) (ofO ?_))
  repeat' first | refine cf (by exact rfl) ?_ rfl | refine st (by exact rfl) ?_ | fail
  refine gyl rfl rfl (y_buildSlice0 u42 inf28) ?_
  dsimp only [GS.set]
  refine Z3 ?_
  refine gyl rfl rfl (Y_appendN (ys := (c :: r)) rfl rfl hk (by decide) u42 inf28 (by rfl) (by simp [Value.cells, Value.oneCell']) (by unfold lim; simp only [List.length_cons, List.length_nil]; omega) (by unfold lim; simp only [List.length_cons, List.length_nil]; omega) (Nat.le_of_ble_eq_true rfl)) ?_
  dsimp only [List.length_nil, List.nil_append, List.map_nil]
  repeat' first | refine st (by exact rfl) ?_ | fail
  refine enm (mem' := [flat (c :: r)]) (by exact rfl) rfl ?_
  exact .cons (CSub_flat _ _) .nil
end Go.Proofs.YtoonleefemkalaaDoor
namespace Go.Proofs.YtoonleefemkalaaDoor
open Go Go.Proofs.YtoonleefemkalaaDoor.E
def idxL {α : Type} (p : α → Bool) (xs : List α) : Int := match xs.findIdx? p with | some i => i | none => -1
variable {z : Nat}
theorem idxL_step {α : Type} {p : α → Bool} {xs : List α} {x : α} (h : ∀ i, i < z → ∀ y, xs[i]? = some y → p y = false) (hx : xs[z]? = some x) (hb : p x = false) : ∀ i, i < z + 1 → ∀ y, xs[i]? = some y → p y = false := fun i hi y hy => by
 by_cases hiz : i = z
 · subst hiz; rw [hx] at hy; injection hy with hy; subst hy; exact hb
 · exact h i (by omega) y hy
theorem idxL_found {α : Type} {p : α → Bool} {xs : List α} {x : α} (h : ∀ i, i < z → ∀ y, xs[i]? = some y → p y = false) (hx : xs[z]? = some x) (hb : p x = true) : PV.d (.int .i64 (z : Nat)) = PV.d (.int .i64 (idxL p xs)) := by
 have hlt := (List.getElem?_eq_some_iff.1 hx).1
 have hxe : xs[z] = x := by rw [List.getElem?_eq_getElem hlt] at hx; injection hx
 have : xs.findIdx? p = some z := by
  rw [List.findIdx?_eq_some_iff_getElem]
  exact ⟨hlt, by rw [hxe]; exact hb, fun j hj => by simpa using h j hj xs[j] (List.getElem?_eq_getElem (by omega))⟩
 simp [idxL, this]
theorem idxL_none {α : Type} {p : α → Bool} {xs : List α} (h : ∀ i, i < xs.length → ∀ y, xs[i]? = some y → p y = false) : PV.d (.int .i64 (-1)) = PV.d (.int .i64 (idxL p xs)) := by
 have : xs.findIdx? p = none := by
  rw [List.findIdx?_eq_none_iff]
  intro x hx
  obtain ⟨i, hi⟩ := List.getElem?_of_mem hx
  exact h i (List.getElem?_eq_some_iff.1 hi).1 x hi
 simp [idxL, this]
variable {α : Type}
theorem idxL_any (p : α → Bool) (xs : List α) : decide (idxL p xs ≥ 0) = xs.any p := by
 unfold idxL
 cases h : xs.findIdx? p with
 | none =>
  rw [List.findIdx?_eq_none_iff] at h
  simp; exact h
 | some i =>
  rw [List.findIdx?_eq_some_iff_getElem] at h
  obtain ⟨h1, h2, _⟩ := h
  have : xs.any p = true := by rw [List.any_eq_true]; exact ⟨xs[i], List.getElem_mem h1, h2⟩
  rw [this]; simp
def lngP (m : Int) (s : ByteArray) : Bool := decide ((s.size : Int) > m)
theorem str_get {l : List ByteArray} {x : ByteArray} (h : l[z]? = some x) : (l.map D.str)[z]? = some (.str x) := by rw [List.getElem?_map, h]; rfl
theorem c55 (s : ByteArray) (m : Int) : Pf Tryd.prog 55 [.str s, .ptr (.int .i64 m)] (.d (.bool (lngP m s))) := by
 refine pfb Tryd.func55 Tryd.ntmps55 Tryd.results55 (fun S0 O0 w0 m0 hm0 => ?_)
 repeat' first | refine st (by exact rfl) ?_ | fail
 exact Y0
theorem c62 (l : List ByteArray) (m : Int) (hl : l.length ≤ 140737488355328) : Pf Tryd.prog 62 [.sl (l.map D.str), .fn (.func 55) [] [.ptr (.int .i64 m)]] (.d (.int .i64 (idxL (lngP m) l))) := by
 refine pfb Tryd.func62 Tryd.ntmps62 Tryd.results62 (fun S0 O0 w0 m0 hm0 => ?_)
 repeat' first | refine st (by exact rfl) ?_ | fail
 have hlen : (l.map D.str).length = l.length := List.length_map ..
 refine gLo (fun z : Nat => ⟨[(0, .d (.sl (l.map D.str))), (1, .d (.fn (.func 55) [] [.ptr (.int .i64 m)])), (7, .d (.int .i64 ((l.map D.str).length : Int))), (8, .d (.int .i64 (z : Int)))], []⟩) (fun z => l.length - z) (fun z => ∀ i, i < z → ∀ y, l[i]? = some y → lngP m y = false) 0 (fun i hi => absurd hi (Nat.not_lt_zero _)) le_of (fun z hz Q' hn he hr hp => ?_)
 repeat' first | refine st (by exact rfl) ?_ | fail
 refine cd (by exact rfl) (fun hb => ?_) (fun hb => ?_)
 · have hlt : z < l.length := by have := of_decide_eq_true hb; omega
   obtain ⟨x, hgx⟩ : ∃ x, l[z]? = some x := ⟨_, List.getElem?_eq_getElem hlt⟩
   repeat' first | refine st (by exact rfl) ?_ | fail
   refine el (by exact rfl) (str_get hgx) ?_ (by omega)
   repeat' first | refine st (by exact rfl) ?_ | refine cl (by exact rfl) (c55 x m) ?_ | fail
   by_cases hx : lngP m x = true
   · refine ct (by exact rfl) ?_ hx
     repeat' first | refine st (by exact rfl) ?_ | fail
     refine toL (hr _ ?_)
     repeat' first | refine st (by exact rfl) ?_ | fail
     exact en (by exact rfl) (idxL_found hz hgx hx)
   · refine cf (by exact rfl) ?_ (eq_false_of_ne_true hx)
     repeat' first | refine st (by exact rfl) ?_ | fail
     rw [show IntKind.i64.wrap ((z : Int) + 1) = ((z + 1 : Nat) : Int) by rw [wrap_i64 (by omega) (by omega)]; rfl]
     exact toL (hn _ (z + 1) (idxL_step hz hgx (eq_false_of_ne_true hx)) (by omega) le_of)
 · have hlt : l.length ≤ z := by have := of_decide_eq_false hb; omega
   repeat' first | refine st (by exact rfl) ?_ | fail
   refine toL (he _ _ ?_)
   repeat' first | refine st (by exact rfl) ?_ | fail
   exact en (by exact rfl) (idxL_none fun i hi y hy => hz i (by omega) y hy)
theorem c54 (l : List ByteArray) (m : Int) (hl : l.length ≤ 140737488355328) : Pf Tryd.prog 54 [.sl (l.map D.str), .fn (.func 55) [] [.ptr (.int .i64 m)]] (.d (.bool (l.any (lngP m)))) := by
 refine pfb Tryd.func54 Tryd.ntmps54 Tryd.results54 (fun S0 O0 w0 m0 hm0 => ?_)
 repeat' first | refine st (by exact rfl) ?_ | refine cl (by exact rfl) (c62 l m hl) ?_ | fail
 exact en (by exact rfl) (by rw [← idxL_any])
theorem c38 (l : List ByteArray) (m : Int) (hl : l.length ≤ 140737488355328) : Pf Tryd.prog 38 [.sl (l.map D.str), .int .i64 m] (.d (.bool (l.any (lngP m)))) := by
 refine pfb Tryd.func38 Tryd.ntmps38 Tryd.results38 (fun S0 O0 w0 m0 hm0 => ?_)
 repeat' (fail_if_success refine fz false (s := ⟨_, [_]⟩) (by exact rfl) ?_); first | refine st (by exact rfl) ?_ | fail
 refine fz false (by exact rfl) ?_
 repeat' first | refine st (by exact rfl) ?_ | refine cl (by exact rfl) (c54 l m hl) ?_ | fail
 exact Y0
end Go.Proofs.YtoonleefemkalaaDoor
namespace Go.Proofs.YtoonleefemkalaaDoor
open Go Go.Proofs.YtoonleefemkalaaDoor.E
structure Ch where
 win : Int
 base : Int
 nxt : Int
 una : List ByteArray
 wai : List ByteArray
 exp : Int
 ear : List Pk
 del : List ByteArray
 tos : List ByteArray
 bak : List ByteArray
def strs (l : List ByteArray) : D := .sl (l.map D.str)
def Ch.d (c : Ch) : D := .agg [.int .i64 c.win, .int .i64 c.base, .int .i64 c.nxt, strs c.una, strs c.wai, .int .i64 c.exp, .sl (c.ear.map Pk.d), strs c.del, strs c.tos, strs c.bak]
theorem pk_get {l : List Pk} {z : Nat} {x : Pk} (h : l[z]? = some x) : (l.map Pk.d)[z]? = some x.d := by rw [List.getElem?_map, h]; rfl
def earB (nxt : Int) : Int → List Pk → Bool
 | _, [] => true
 | last, p :: r => !(p.kd != 1 || decide (p.nu ≤ last) || decide (p.nu ≥ nxt) || decide ((p.bo.size : Int) > 200)) && earB nxt p.nu r
def chk1 (c : Ch) : Bool := decide (c.win < 1) || decide (c.win > 16) || decide (c.base < 0) || decide (c.base > c.nxt) || IntKind.i64.wrap (c.nxt - c.base) != (c.una.length : Int) || decide ((c.una.length : Int) > c.win)
def chk2 (c : Ch) : Bool := (decide ((c.una.length : Int) < c.win) && decide ((c.wai.length : Int) > 0)) || decide (c.nxt > 10000) || decide (IntKind.i64.wrap (c.nxt + (c.wai.length : Int)) > 10000)
def chk3 (c : Ch) : Bool := decide (c.exp < c.base) || decide (c.exp > c.nxt) || c.exp != (c.del.length : Int)
def chk4 (c : Ch) : Bool := c.una.any (lngP 200) || c.wai.any (lngP 200) || c.del.any (lngP 200)
def chk5 (c : Ch) : Bool := decide ((c.tos.length : Int) > 200) || decide ((c.bak.length : Int) > 200) || c.tos.any (lngP 212) || c.bak.any (lngP 212)
def chkC (c : Ch) : Bool := chk1 c || chk2 c || chk3 c || !earB c.nxt c.exp c.ear || chk4 c || chk5 c
theorem c16 (c : Ch) (h0 : c.una.length ≤ 140737488355328) (h1 : c.wai.length ≤ 140737488355328) (h2 : c.ear.length ≤ 140737488355328) (h3 : c.del.length ≤ 140737488355328) (h4 : c.tos.length ≤ 140737488355328) (h5 : c.bak.length ≤ 140737488355328) : Pf Tryd.prog 16 [c.d] (.d (.int .i64 (if chkC c = true then 331 else 0))) := by
 have l0 : (c.una.map D.str).length = c.una.length := List.length_map ..
 have l1 : (c.wai.map D.str).length = c.wai.length := List.length_map ..
 have l3 : (c.del.map D.str).length = c.del.length := List.length_map ..
 unfold Ch.d strs
 refine pfb Tryd.func16 Tryd.ntmps16 Tryd.results16 (fun S0 O0 w0 m0 hm0 => ?_)
 repeat' (fail_if_success refine fz true (s := ⟨_, [_]⟩) (by exact rfl) ?_); first | refine st (by exact rfl) ?_ | fail
 refine Z9 ?_
 repeat' first | refine st (by exact rfl) ?_ | fail
 refine cd (by exact rfl) (fun hb => ?_) (fun hb => ?_)
 · have hc : chk1 c = true := by rw [l0] at hb; exact hb
   repeat' first | refine st (by exact rfl) ?_ | fail
   exact en (by exact rfl) (by unfold chkC; rw [hc]; rfl)
 · have hc1 : chk1 c = false := by rw [l0] at hb; exact hb
   repeat' first | refine st (by exact rfl) ?_ | fail
   refine cd (by exact rfl) (fun hb => ?_) (fun hb => ?_)
   · have hc : chk2 c = true := by rw [l0, l1] at hb; exact hb
     repeat' first | refine st (by exact rfl) ?_ | fail
     exact en (by exact rfl) (by unfold chkC; rw [hc1, hc]; rfl)
   have hc2 : chk2 c = false := by rw [l0, l1] at hb; exact hb
   repeat' first | refine st (by exact rfl) ?_ | fail
   refine cd (by exact rfl) (fun hb => ?_) (fun hb => ?_)
   · have hc : chk3 c = true := by rw [l3] at hb; exact hb
     repeat' first | refine st (by exact rfl) ?_ | fail
     exact en (by exact rfl) (by unfold chkC; rw [hc1, hc2, hc]; rfl)
   have hc3 : chk3 c = false := by rw [l3] at hb; exact hb
   repeat' first | refine st (by exact rfl) ?_ | fail
   have le : (c.ear.map Pk.d).length = c.ear.length := List.length_map ..
   refine gLo (fun x : Nat × Int => ⟨[(1, .d (.ptr (.agg [.int .i64 c.win, .int .i64 c.base, .int .i64 c.nxt, .sl (c.una.map D.str), .sl (c.wai.map D.str), .int .i64 c.exp, .sl (c.ear.map Pk.d), .sl (c.del.map D.str), .sl (c.tos.map D.str), .sl (c.bak.map D.str)]))), (4, .d (.int .i64 x.2)), (92, .d (.sl (c.ear.map Pk.d))), (93, .d (.int .i64 ((c.ear.map Pk.d).length : Int))), (94, .d (.int .i64 (x.1 : Int)))], []⟩) (fun x => c.ear.length - x.1) (fun x => x.1 ≤ c.ear.length ∧ earB c.nxt c.exp c.ear = earB c.nxt x.2 (c.ear.drop x.1)) (0, c.exp) ⟨Nat.zero_le _, rfl⟩ le_of (fun x hx Q' hn he hr hp => ?_)
   obtain ⟨z, a⟩ := x
   obtain ⟨hz, hinv⟩ := hx
   dsimp only at hz hinv ⊢
   repeat' first | refine st (by exact rfl) ?_ | fail
   refine cd (by exact rfl) (fun hb2 => ?_) (fun hb2 => ?_)
   · have hlt : z < c.ear.length := by have := of_decide_eq_true hb2; omega
     obtain ⟨p, hp2⟩ : ∃ p, c.ear[z]? = some p := ⟨_, List.getElem?_eq_getElem hlt⟩
     have hdr : c.ear.drop z = p :: c.ear.drop (z + 1) := by
      rw [List.drop_eq_getElem_cons hlt]; rw [List.getElem?_eq_getElem hlt] at hp2; injection hp2 with hp2; rw [hp2]
     rw [hdr, earB] at hinv
     repeat' first | refine st (by exact rfl) ?_ | fail
     refine el (by exact rfl) (pk_get hp2) ?_ (by omega)
     unfold Pk.d
     iterate 3 refine st (by exact rfl) ?_
     refine Z9 ?_
     repeat' first | refine st (by exact rfl) ?_ | fail
     refine cd (by exact rfl) (fun hb3 => ?_) (fun hb3 => ?_)
     · have hbad : (p.kd != 1 || decide (p.nu ≤ a) || decide (p.nu ≥ c.nxt) || decide ((p.bo.size : Int) > 200)) = true := hb3
       rw [hbad] at hinv
       repeat' first | refine st (by exact rfl) ?_ | fail
       refine toL (hr _ ?_)
       repeat' first | refine st (by exact rfl) ?_ | fail
       exact en (by exact rfl) (by unfold chkC; rw [hc1, hc2, hc3, hinv]; rfl)
     · have hgood : (p.kd != 1 || decide (p.nu ≤ a) || decide (p.nu ≥ c.nxt) || decide ((p.bo.size : Int) > 200)) = false := hb3
       rw [hgood] at hinv
       repeat' first | refine st (by exact rfl) ?_ | fail
       rw [show IntKind.i64.wrap ((z : Int) + 1) = ((z + 1 : Nat) : Int) by rw [wrap_i64 (by omega) (by omega)]; rfl]
       exact toL (hn _ (z + 1, p.nu) ⟨hlt, by rw [hinv]; rfl⟩ (by dsimp only; omega) le_of)
   · have hle : c.ear.length ≤ z := by have := of_decide_eq_false hb2; omega
     have hev : earB c.nxt c.exp c.ear = true := by rw [hinv, List.drop_eq_nil_of_le hle]; rfl
     have qa := c38 c.una 200 h0
     have qb := c38 c.wai 200 h1
     have qc := c38 c.del 200 h3
     have qd := c38 c.tos 212 h4
     have qe := c38 c.bak 212 h5
     repeat' first | refine st (by exact rfl) ?_ | fail
     refine toL (he _ _ ?_)
     repeat' first | refine st (by exact rfl) ?_ | refine cl (by exact rfl) qa ?_ | refine clg (by exact rfl) (fun _ => qb) ?_ | refine clg (by exact rfl) (fun _ => qc) ?_ | fail
     refine cd (by exact rfl) (fun hb4 => ?_) (fun hb4 => ?_)
     · have hc4 : chk4 c = true := hb4
       repeat' first | refine st (by exact rfl) ?_ | fail
       exact en (by exact rfl) (by unfold chkC; rw [hc1, hc2, hc3, hev, hc4]; rfl)
     have hc4 : chk4 c = false := hb4
     have l4 : (c.tos.map D.str).length = c.tos.length := List.length_map ..
     have l5 : (c.bak.map D.str).length = c.bak.length := List.length_map ..
     repeat' first | refine st (by exact rfl) ?_ | refine clg (by exact rfl) (fun _ => qd) ?_ | refine clg (by exact rfl) (fun _ => qe) ?_ | fail
     refine cd (by exact rfl) (fun hb5 => ?_) (fun hb5 => ?_)
     · have hc5 : chk5 c = true := by rw [l4, l5] at hb5; exact hb5
       repeat' first | refine st (by exact rfl) ?_ | fail
       exact en (by exact rfl) (by unfold chkC; rw [hc1, hc2, hc3, hev, hc4, hc5]; rfl)
     · have hc5 : chk5 c = false := by rw [l4, l5] at hb5; exact hb5
       repeat' first | refine st (by exact rfl) ?_ | fail
       exact en (by exact rfl) (by unfold chkC; rw [hc1, hc2, hc3, hev, hc4, hc5]; rfl)
end Go.Proofs.YtoonleefemkalaaDoor
namespace Go.Proofs.YtoonleefemkalaaDoor
open Go Go.Proofs.YtoonleefemkalaaDoor.E
structure Pp where
 u1 : List D
 u2 : List D
 w1 : List D
 w2 : List D
 d1 : List D
 d2 : List D
 t1 : List D
 t2 : List D
 b1 : List D
 b2 : List D
 e1 : List D
 e2 : List D
def p0 : Pp := ⟨[], [], [], [], [], [], [], [], [], [], [], []⟩
def sD (l : List ByteArray) : List D := l.map D.str
def pD (l : List Pk) : List D := l.map Pk.d
structure Pp.Ok (p : Pp) : Prop where
 u1 : ∀ x ∈ p.u1, x.cells.length = 1
 u2 : ∀ x ∈ p.u2, x.cells.length = 1
 w1 : ∀ x ∈ p.w1, x.cells.length = 1
 w2 : ∀ x ∈ p.w2, x.cells.length = 1
 d1 : ∀ x ∈ p.d1, x.cells.length = 1
 d2 : ∀ x ∈ p.d2, x.cells.length = 1
 t1 : ∀ x ∈ p.t1, x.cells.length = 1
 t2 : ∀ x ∈ p.t2, x.cells.length = 1
 b1 : ∀ x ∈ p.b1, x.cells.length = 1
 b2 : ∀ x ∈ p.b2, x.cells.length = 1
 e1 : ∀ x ∈ p.e1, x.cells.length = 3
 e2 : ∀ x ∈ p.e2, x.cells.length = 3
theorem p0_ok : p0.Ok := by constructor <;> intro x hx <;> cases hx
theorem sD_len (l : List ByteArray) : (sD l).length = l.length := List.length_map ..
theorem pD_len (l : List Pk) : (pD l).length = l.length := List.length_map ..
theorem sD_k (l : List ByteArray) : ∀ x ∈ sD l, x.cells.length = 1 := fun x hx => by
 obtain ⟨y, _, rfl⟩ := List.mem_map.1 hx; rfl
theorem pD_k (l : List Pk) : ∀ x ∈ pD l, x.cells.length = 3 := fun x hx => by
 obtain ⟨y, _, rfl⟩ := List.mem_map.1 hx; rfl
theorem row_k {k : Nat} {a b c : List D} (ha : ∀ x ∈ a, x.cells.length = k) (hb : ∀ x ∈ b, x.cells.length = k) (hc : ∀ x ∈ c, x.cells.length = k) : ∀ x ∈ a ++ b ++ c, x.cells.length = k := fun x hx => by
 rcases List.mem_append.1 hx with hx | hx
 · rcases List.mem_append.1 hx with hx | hx
   · exact ha x hx
   · exact hb x hx
 · exact hc x hx
def rowV (b k : Nat) (pre xs post : List D) : PV := .rsl b (rlo k pre xs post) xs.length k
def ChA (c : Ch) (p : Pp) (u w d t b e : Nat) : List PV :=
 [.d (.int .i64 c.win), .d (.int .i64 c.base), .d (.int .i64 c.nxt), rowV u 1 p.u1 (sD c.una) p.u2, rowV w 1 p.w1 (sD c.wai) p.w2, .d (.int .i64 c.exp), rowV e 3 p.e1 (pD c.ear) p.e2, rowV d 1 p.d1 (sD c.del) p.d2, rowV t 1 p.t1 (sD c.tos) p.t2, rowV b 1 p.b1 (sD c.bak) p.b2]
def ChR (c : Ch) (p : Pp) : List (List PV) := [flat (p.u1 ++ sD c.una ++ p.u2), flat (p.w1 ++ sD c.wai ++ p.w2), flat (p.d1 ++ sD c.del ++ p.d2), flat (p.t1 ++ sD c.tos ++ p.t2), flat (p.b1 ++ sD c.bak ++ p.b2), flat (p.e1 ++ pD c.ear ++ p.e2)]
def ChM (c : Ch) (p : Pp) : List (List PV) := ChA c p 1 2 3 4 5 6 :: ChR c p
theorem ChR_rens (f : Nat → Nat) (c : Ch) (p : Pp) : (ChR c p).map (PV.rens f) = ChR c p := by simp only [ChR, List.map_cons, List.map_nil, rens_flat]
theorem ChA_rens (f : Nat → Nat) (c : Ch) (p : Pp) (u w d t b e : Nat) : PV.rens f (ChA c p u w d t b e) = ChA c p (f u) (f w) (f d) (f t) (f b) (f e) := rfl
theorem ChM_rens (f : Nat → Nat) (c : Ch) (p : Pp) : (ChM c p).map (PV.rens f) = ChA c p (f 1) (f 2) (f 3) (f 4) (f 5) (f 6) :: ChR c p := by
 rw [ChM, List.map_cons, ChR_rens, ChA_rens]
theorem refs_flat (n : Nat) : ∀ xs : List D, PV.refsBs n (flat xs) = true
 | [] => rfl
 | x :: xs => by
  rw [flat_cons]
  have h1 : ∀ (ds : List D) (ps : List PV), PV.refsBs n ps = true → PV.refsBs n (ds.map PV.d ++ ps) = true := by
   intro ds
   induction ds with
   | nil => exact fun _ h => h
   | cons d ds ih => intro ps h; show (true && PV.refsBs n (ds.map PV.d ++ ps)) = true; rw [ih ps h]; rfl
  exact h1 _ _ (refs_flat n xs)
theorem ChR_refs (n : Nat) (c : Ch) (p : Pp) : (ChR c p).all (PV.refsBs n) = true := by simp only [ChR, List.all_cons, List.all_nil, refs_flat, Bool.and_self]
theorem rowV0 (b k : Nat) (xs : List D) : PV.rsl b 0 xs.length k = rowV b k [] xs [] := by rw [rowV, rlo_zero]
theorem rowF0 (xs : List D) : flat xs = flat ([] ++ xs ++ []) := by simp
structure Ch.Few (c : Ch) : Prop where
 una : c.una.length ≤ 1000000
 wai : c.wai.length ≤ 1000000
 ear : c.ear.length ≤ 1000000
 del : c.del.length ≤ 1000000
 tos : c.tos.length ≤ 1000000
 bak : c.bak.length ≤ 1000000
theorem nrefs_map_d (b : Nat) : ∀ ds : List D, PV.nrefs b (ds.map PV.d) = true
 | [] => rfl
 | _ :: ds => by simp only [List.map_cons, PV.nrefs, PV.nref, nrefs_map_d b ds, Bool.and_self]
theorem nrefs_append (b : Nat) : ∀ xs ys : List PV, PV.nrefs b (xs ++ ys) = (PV.nrefs b xs && PV.nrefs b ys)
 | [], _ => by simp [PV.nrefs]
 | a :: xs, ys => by simp only [List.cons_append, PV.nrefs, nrefs_append b xs ys, Bool.and_assoc]
theorem nrefs_flat (b : Nat) : ∀ xs : List D, PV.nrefs b (flat xs) = true
 | [] => rfl
 | x :: xs => by rw [flat_cons, nrefs_append, nrefs_map_d, nrefs_flat b xs]; rfl
def unk (n : Nat) : List PV := List.replicate n .undef
theorem CSub_unk (n : Nat) : ∀ l : List PV, CSub n l (unk l.length)
 | [] => .nil
 | _ :: l => .cons (.inr (.inl rfl)) rfl (CSub_unk n l)
theorem ChR_sub (n : Nat) (c : Ch) (p : Pp) : MSub n (ChR c p) (ChR c p) := .cons (CSub_flat _ _) (.cons (CSub_flat _ _) (.cons (CSub_flat _ _) (.cons (CSub_flat _ _) (.cons (CSub_flat _ _) (.cons (CSub_flat _ _) .nil)))))
theorem cn {n : Nat} {S0 : Reg} {O0 : Owns} {w0 : World} {m0 Bs : List Nat} {ds : List Deferred} {fr : List Fr} {Q : Exit → GS → Prop} {ops : Array Oper} {i : Nat} {l : List Nat} {sl : List (Nat × PV)} {mem mem1 mem' : List (List PV)} {t : Nat} {f : FuncId} {args : List PV} {r r' : PV} (h : cms ops.toList n i sl = some (t, f, args)) (hc : Gm Tryd.prog f args [] r mem1) (hg : GF ⟨Tryd.prog, n, S0, O0, w0, m0, Bs, ds⟩ fr (.ops ops l) Q ⟨(t, r') :: sl, mem'⟩) (hr : r.ren (renN [] mem.length) = r' := by rfl) (hm : mem ++ mem1.map (PV.rens (renN [] mem.length)) = mem') (hargs : args = PV.rens (fun b => ([] : List Nat).getD b 0) args := by rfl) (hra : PV.refsBs 0 args = true := by rfl) : GF ⟨Tryd.prog, n, S0, O0, w0, m0, Bs, ds⟩ fr (.ops ops (i :: l)) Q ⟨sl, mem⟩ := gNew h hc hargs hra hr hm (nrefLM_nil _ _) hg
theorem c40 (c : Ch) (h : c.Few) : Gm Tryd.prog 40 [.d c.d] [] (.agg (ChA c p0 3 4 5 6 7 8)) ([unk 10, unk 10, unk 5] ++ ChR c p0) := by
 have q1 := c56 (sD c.una) (sD_k _) (by rw [sD_len]; exact h.una)
 have q2 := c56 (sD c.wai) (sD_k _) (by rw [sD_len]; exact h.wai)
 have q3 := c56 (sD c.del) (sD_k _) (by rw [sD_len]; exact h.del)
 have q4 := c56 (sD c.tos) (sD_k _) (by rw [sD_len]; exact h.tos)
 have q5 := c56 (sD c.bak) (sD_k _) (by rw [sD_len]; exact h.bak)
 have q6 := c57 (pD c.ear) (pD_k _) (by rw [pD_len]; exact h.ear)
 refine gmB 0 Tryd.func40 Tryd.ntmps40 Tryd.results40 (fun S0 O0 w0 m0 hm0 => ?_)
 repeat' first | refine st (by exact rfl) ?_ | fail
 refine gyl rfl rfl (Y_buildSliceR (ps := [(0, 3), (0, 4), (0, 7), (0, 8), (0, 9)]) (xs := [.tmp 5, .tmp 6, .tmp 7, .tmp 8, .tmp 9]) u99 inf86 rfl rfl rfl rfl (by decide) (by decide) (Nat.le_of_ble_eq_true rfl)) ?_
 repeat' first | refine st (by exact rfl) ?_ | fail
 refine gRn 6 ?_
 repeat' first | refine st (by exact rfl) ?_ | fail
 refine ct (by exact rfl) ?_ rfl
 repeat' first | refine st (by exact rfl) ?_ | fail
 refine Z0 ?_
 repeat' first | refine st (by exact rfl) ?_ | fail
 refine cn (r' := .rsl 3 0 _ 1) (by exact rfl) q1 ?_ (hm := by simp only [List.map_cons, List.map_nil, rens_flat, List.cons_append, List.nil_append]; rfl)
 repeat' first | refine st (by exact rfl) ?_ | fail
 refine ct (by exact rfl) ?_ rfl
 repeat' first | refine st (by exact rfl) ?_ | fail
 refine Z0 ?_
 repeat' first | refine st (by exact rfl) ?_ | fail
 refine cn (r' := .rsl 4 0 _ 1) (by exact rfl) q2 ?_ (hm := by simp only [List.map_cons, List.map_nil, rens_flat, List.cons_append, List.nil_append]; rfl)
 repeat' first | refine st (by exact rfl) ?_ | fail
 refine ct (by exact rfl) ?_ rfl
 repeat' first | refine st (by exact rfl) ?_ | fail
 refine Z0 ?_
 repeat' first | refine st (by exact rfl) ?_ | fail
 refine cn (r' := .rsl 5 0 _ 1) (by exact rfl) q3 ?_ (hm := by simp only [List.map_cons, List.map_nil, rens_flat, List.cons_append, List.nil_append]; rfl)
 repeat' first | refine st (by exact rfl) ?_ | fail
 refine ct (by exact rfl) ?_ rfl
 repeat' first | refine st (by exact rfl) ?_ | fail
 refine Z0 ?_
 repeat' first | refine st (by exact rfl) ?_ | fail
 refine cn (r' := .rsl 6 0 _ 1) (by exact rfl) q4 ?_ (hm := by simp only [List.map_cons, List.map_nil, rens_flat, List.cons_append, List.nil_append]; rfl)
 repeat' first | refine st (by exact rfl) ?_ | fail
 refine ct (by exact rfl) ?_ rfl
 repeat' first | refine st (by exact rfl) ?_ | fail
 refine Z0 ?_
 repeat' first | refine st (by exact rfl) ?_ | fail
 refine cn (r' := .rsl 7 0 _ 1) (by exact rfl) q5 ?_ (hm := by simp only [List.map_cons, List.map_nil, rens_flat, List.cons_append, List.nil_append]; rfl)
 repeat' first | refine st (by exact rfl) ?_ | fail
 refine cf (by exact rfl) ?_ rfl
 repeat' first | refine st (by exact rfl) ?_ | fail
 refine cn (r' := .rsl 8 0 _ 3) (by exact rfl) q6 ?_ (hm := by simp only [List.map_cons, List.map_nil, rens_flat, List.cons_append, List.nil_append]; rfl)
 repeat' first | refine st (by exact rfl) ?_ | fail
 refine enm (mem' := [unk 10, unk 10, unk 5] ++ ChR c p0) (by exact rfl) ?_ ?_
 · simp only [rowV0]; rfl
 · simp only [rowF0 (sD c.una), rowF0 (sD c.wai), rowF0 (sD c.del), rowF0 (sD c.tos), rowF0 (sD c.bak), rowF0 (pD c.ear)]
   exact .cons (CSub_unk _ _) (.cons (CSub_unk _ _) (.cons (CSub_unk _ _) (ChR_sub _ c p0)))
end Go.Proofs.YtoonleefemkalaaDoor
