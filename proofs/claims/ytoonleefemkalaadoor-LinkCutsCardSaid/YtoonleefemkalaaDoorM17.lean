import Derived.Test.YtoonleefemkalaaDoorM16
import Derived.Test.YtoonleefemkalaaDoorM15
/- Contracts of functions. Conditions: none. -/
set_option linter.unusedSimpArgs false
set_option linter.unusedVariables false
set_option maxRecDepth 20000
namespace Go.Proofs.YtoonleefemkalaaDoor
open Go Go.Proofs.YtoonleefemkalaaDoor.E
theorem bytes_head (s : ByteArray) (h : 12 ≤ s.size) : bytesD (s.extract 0 12) = [.int .u8 (byt s 0), .int .u8 (byt s 1), .int .u8 (byt s 2), .int .u8 (byt s 3), .int .u8 (byt s 4), .int .u8 (byt s 5), .int .u8 (byt s 6), .int .u8 (byt s 7), .int .u8 (byt s 8), .int .u8 (byt s 9), .int .u8 (byt s 10), .int .u8 (byt s 11)] := by
 refine List.ext_getElem? fun i => ?_
 by_cases hi : i < 12
 · have hl : (s.extract 0 12).size = 12 := by simp [ByteArray.size_extract]; omega
   have hil : i < (bytesD (s.extract 0 12)).length := by rw [bytesD_length, hl]; exact hi
   rw [List.getElem?_eq_getElem hil]
   have e : (bytesD (s.extract 0 12))[i] = .int .u8 (byt s i) := by
    have hd : i < (s.extract 0 12).data.toList.length := by rw [bytes_len, hl]; exact hi
    have h0 : (bytesD (s.extract 0 12))[i]? = some (.int .u8 (((s.extract 0 12).data.toList[i]'hd).toNat : Int)) := by
     unfold bytesD
     rw [List.getElem?_map, List.getElem?_eq_getElem hd]; rfl
    have h1 := List.getElem?_eq_getElem hil
    rw [h0] at h1
    injection h1 with h1
    rw [← h1]
    unfold byt
    have h2 : s[i]! = s[i]'(by omega) := getElem!_pos s i (by omega)
    rw [h2]
    congr 3
    simp [ByteArray.data_extract]
    rfl
   rw [e]
   match i, hi with
   | 0, _ => rfl
   | 1, _ => rfl
   | 2, _ => rfl
   | 3, _ => rfl
   | 4, _ => rfl
   | 5, _ => rfl
   | 6, _ => rfl
   | 7, _ => rfl
   | 8, _ => rfl
   | 9, _ => rfl
   | 10, _ => rfl
   | 11, _ => rfl
   | n + 12, h => omega
 · rw [List.getElem?_eq_none (by rw [bytesD_length]; simp [ByteArray.size_extract]; omega), List.getElem?_eq_none (by simp; omega)]
def hdP (s : ByteArray) : Pk := ⟨byt s 2, nb4 (byt s 3) (byt s 4) (byt s 5) (byt s 6), s.extract 12 s.size⟩
def zeroP : Pk := ⟨0, 0, ByteArray.empty⟩
def deW (s : ByteArray) : Bool := byt s 0 != 114 || byt s 1 != 100 || byt s 11 != 58 || nb4 (byt s 7) (byt s 8) (byt s 9) (byt s 10) != ((s.extract 12 s.size).size : Int) || !(hdP s).right
def deP (s : ByteArray) : Pk := if s.size < 12 then zeroP else if deW s = true then zeroP else hdP s
def deE (s : ByteArray) : Int := if s.size < 12 then 330 else if deW s = true then 330 else 0
theorem c12 (s : ByteArray) : Pf Tryd.prog 12 [.str s] (.tup [.d (deP s).d, .d (.int .i64 (deE s))]) := by
 unfold deP deE
 refine pfb Tryd.func12 Tryd.ntmps12 Tryd.results12 (fun S0 O0 w0 m0 hm0 => ?_)
 repeat' first | refine st (by exact rfl) ?_ | fail
 refine cd (by exact rfl) (fun hb => ?_) (fun hb => ?_)
 · have hlt : s.size < 12 := by have := of_decide_eq_true hb; omega
   repeat' first | refine st (by exact rfl) ?_ | fail
   exact en (by exact rfl) (by rw [if_pos hlt, if_pos hlt]; rfl)
 · have hge : 12 ≤ s.size := by have := of_decide_eq_false hb; omega
   have hn : ¬ s.size < 12 := by omega
   have hbd := bytes_head s hge
   have q36 := c36 _ _ _ _ (byt_lt s 3) (byt_lt s 4) (byt_lt s 5) (byt_lt s 6)
   have q36' := c36 _ _ _ _ (byt_lt s 7) (byt_lt s 8) (byt_lt s 9) (byt_lt s 10)
   have hw2 : IntKind.i64.wrap (byt s 2) = byt s 2 := wrap_small (byt_lt s 2).1 (by have := (byt_lt s 2).2; omega)
   have q33 := c33 (hdP s)
   unfold Pk.d at q33
   have e1 : (hdP s).kd = IntKind.i64.wrap (byt s 2) := hw2.symm
   rw [e1] at q33
   repeat' first | refine st (by exact rfl) ?_ | fail
   refine qu (by exact rfl) (show _ ∧ _ from ⟨by decide, by omega⟩) ?_
   refine gyl rfl rfl (Y_strbytes (b := s.extract 0 12) rfl u9 u76 u5 (by rw [ByteArray.size_extract]; unfold lim; omega) (Nat.le_of_ble_eq_true rfl)) ?_
   rw [hbd]
   dsimp only [GS.set]
   refine gq (by exact rfl) (fun _ _ => Q_listArr (xs := [.int .u8 (byt s 0), .int .u8 (byt s 1), .int .u8 (byt s 2), .int .u8 (byt s 3), .int .u8 (byt s 4), .int .u8 (byt s 5), .int .u8 (byt s 6), .int .u8 (byt s 7), .int .u8 (byt s 8), .int .u8 (byt s 9), .int .u8 (byt s 10), .int .u8 (byt s 11)]) rfl u75 rfl (List.cons_ne_nil _ _) (fun x hx => by
    simp only [List.mem_cons, List.not_mem_nil, or_false] at hx
    rcases hx with rfl | rfl | rfl | rfl | rfl | rfl | rfl | rfl | rfl | rfl | rfl | rfl <;> exact ⟨_, _, rfl⟩)) ?_
   repeat' first | refine st (by exact rfl) ?_ | fail
   refine ow [10, 11] [[[.d (.int .i64 0), .d (.int .i64 0), .d (.str ByteArray.empty)], [.d (.int .u8 (byt s 0)), .d (.int .u8 (byt s 1)), .d (.int .u8 (byt s 2)), .d (.int .u8 (byt s 3)), .d (.int .u8 (byt s 4)), .d (.int .u8 (byt s 5)), .d (.int .u8 (byt s 6)), .d (.int .u8 (byt s 7)), .d (.int .u8 (byt s 8)), .d (.int .u8 (byt s 9)), .d (.int .u8 (byt s 10)), .d (.int .u8 (byt s 11))]], [[.d (.int .i64 0), .d (.int .i64 0), .d (.str ByteArray.empty)], [.d (.int .u8 (byt s 0)), .d (.int .u8 (byt s 1)), .d (.int .u8 (byt s 2)), .d (.int .u8 (byt s 3)), .d (.int .u8 (byt s 4)), .d (.int .u8 (byt s 5)), .d (.int .u8 (byt s 6)), .d (.int .u8 (byt s 7)), .d (.int .u8 (byt s 8)), .d (.int .u8 (byt s 9)), .d (.int .u8 (byt s 10)), .d (.int .u8 (byt s 11))], [.d (.int .i64 0), .d (.int .i64 0), .d (.str ByteArray.empty)]], [[.d (.int .i64 0), .d (.int .i64 0), .d (.str ByteArray.empty)], [.d (.int .u8 (byt s 0)), .d (.int .u8 (byt s 1)), .d (.int .u8 (byt s 2)), .d (.int .u8 (byt s 3)), .d (.int .u8 (byt s 4)), .d (.int .u8 (byt s 5)), .d (.int .u8 (byt s 6)), .d (.int .u8 (byt s 7)), .d (.int .u8 (byt s 8)), .d (.int .u8 (byt s 9)), .d (.int .u8 (byt s 10)), .d (.int .u8 (byt s 11))], [.d (.int .i64 (IntKind.i64.wrap (byt s 2))), .d (.int .i64 (nb4 (byt s 3) (byt s 4) (byt s 5) (byt s 6))), .d (.str (s.extract 12 s.size))]]] (hc := ?_)
   refine qiw (hs := rfl) (hj := rfl) (h := fun _ => rfl) (p := .ref 1 (0 + Int.toNat 2 * 1)) (hq := fun rest X hX _ _ => Q_arrAddr (o := 0) (i := 2) (m := 1) rfl rfl u75 sz5 (by decide) (by decide)) (hc := ?_)
   refine iw (ob := []) (p := .d (.int .u8 (byt s 2))) (h := fun rest X hX => by (simp only [List.mem_cons, List.not_mem_nil, or_false] at hX; rcases hX with rfl | rfl | rfl <;> rfl)) (hc := ?_)
   refine Z3 ?_
   refine qiw (hs := rfl) (hj := rfl) (h := fun _ => rfl) (p := .rsl 1 (Int.toNat 3) (Int.toNat 7 - Int.toNat 3) 1) (hq := fun rest X hX _ _ => by (simp only [List.mem_cons, List.not_mem_nil, or_false] at hX; rcases hX with rfl | rfl | rfl <;> exact Q_sliceArr (i := 3) (j := 7) rfl rfl rfl rfl rfl u75 sz5 (by exact (by decide : 12 ≤ 12)) (by decide) (by decide) (by decide) (by decide))) (hc := ?_)
   refine qiw (hs := rfl) (hj := rfl) (h := fun _ => rfl) (p := .ref 1 3) (hq := fun rest X hX _ _ => Q_rowArr (n := 4) rfl u80 (by decide) (by decide)) (hc := ?_)
   refine iw (ob := []) (p := .d (.agg [.int .u8 (byt s 3), .int .u8 (byt s 4), .int .u8 (byt s 5), .int .u8 (byt s 6)])) (h := fun rest X hX => by (simp only [List.mem_cons, List.not_mem_nil, or_false] at hX; rcases hX with rfl | rfl | rfl <;> rfl)) (hc := ?_)
   refine cw (hcl := q36) (hc := ?_)
   refine Z3 ?_
   refine bw (hcc := show _ ∧ _ from ⟨by decide, by omega⟩) (hc := ?_)
   refine Z3 ?_
   refine mw 0 (hc := ?_)
   refine sw 1 (hc := ?_)
   refine ew (hc := ?_)
   repeat' first | refine st (by exact rfl) ?_ | fail
   refine Z6 ?_;refine Z1 ?_
   iterate 3 refine ov (hc := ?_)
   refine Z1 ?_
   iterate 4 refine ov (hc := ?_)
   refine Z1 ?_
   iterate 4 refine ov (hc := ?_)
   refine oqw (hs := rfl) (hj := rfl) (h := fun _ => rfl) (hq := fun rest _ _ => Q_sliceArr rfl rfl rfl rfl rfl u75 sz5 (by exact (by decide : 12 ≤ 12)) (by decide) (by decide) (by decide) (by decide)) (hc := ?_)
   refine oqw (hs := rfl) (hj := rfl) (h := fun _ => rfl) (hq := fun rest _ _ => Q_rowArr rfl u80 (by decide) (by decide)) (hc := ?_)
   refine Z5 ?_
   refine ocg (hcl := fun _ => q36') (hc := ?_)
   iterate 7 refine ov (hc := ?_)
   refine ocg (hcl := fun _ => q33) (hc := ?_)
   iterate 2 refine ov (hc := ?_)
   refine Z7 ?_
   repeat' first | refine st (by exact rfl) ?_ | fail
   refine cd (by exact rfl) (fun hb2 => ?_) (fun hb2 => ?_)
   · have hr : deW s = true := hb2
     repeat' first | refine st (by exact rfl) ?_ | fail
     exact en (by exact rfl) (by rw [if_neg hn, if_neg hn, if_pos hr, if_pos hr]; rfl)
   · have hr : ¬ deW s = true := fun h => by
      have : deW s = false := hb2
      rw [h] at this; cases this
     repeat' first | refine st (by exact rfl) ?_ | fail
     refine en (by exact rfl) ?_
     rw [if_neg hn, if_neg hn, if_neg hr, if_neg hr]
     show PV.tup [.d (.agg [.int .i64 (IntKind.i64.wrap (byt s 2)), _, _]), _] = _
     rw [hw2]
     rfl
end Go.Proofs.YtoonleefemkalaaDoor
namespace Go.Proofs.YtoonleefemkalaaDoor
open Go Go.Proofs.YtoonleefemkalaaDoor.E
end Go.Proofs.YtoonleefemkalaaDoor
namespace Go.Proofs.YtoonleefemkalaaDoor
open Go Go.Proofs.YtoonleefemkalaaDoor.E
def decD : D → UInt8
 | .int _ n => UInt8.ofNat n.toNat
 | _ => 0
theorem head_eq (s : ByteArray) (h : 12 ≤ s.size) : s.extract 0 12 = strOfNums [byt s 0, byt s 1, byt s 2, byt s 3, byt s 4, byt s 5, byt s 6, byt s 7, byt s 8, byt s 9, byt s 10, byt s 11] := by
 have h1 := congrArg (List.map decD) (bytes_head s h)
 unfold bytesD at h1
 rw [List.map_map, show (decD ∘ fun c : UInt8 => D.int .u8 (c.toNat : Int)) = id from funext fun c => by simp [decD], List.map_id] at h1
 apply ByteArray.ext
 apply Array.toList_inj.1
 rw [h1, strOfNums_data]
 rfl
theorem strOfNums_inj : ∀ (a b : List Int), (∀ x ∈ a, 0 ≤ x ∧ x < 256) → (∀ x ∈ b, 0 ≤ x ∧ x < 256) → (strOfNums a).data.toList = (strOfNums b).data.toList → a = b := by
 intro a b ha hb h
 rw [strOfNums_data, strOfNums_data] at h
 have hl : a.length = b.length := by have := congrArg List.length h; simpa using this
 refine List.ext_getElem hl fun i h1 h2 => ?_
 have h3 := congrArg (fun l => l[i]?) h
 simp only [List.getElem?_map, List.getElem?_eq_getElem h1, List.getElem?_eq_getElem h2, Option.map_some, Option.some.injEq] at h3
 have h4 := congrArg UInt8.toNat h3
 have ha' := ha _ (List.getElem_mem h1)
 have hb' := hb _ (List.getElem_mem h2)
 rw [UInt8.toNat_ofNat', UInt8.toNat_ofNat'] at h4
 omega
theorem nb4_be4 {n a b c d : Int} (h0 : 0 ≤ n) (h1 : n < 4294967296) (h : be4 n = [a, b, c, d]) : nb4 a b c d = n := by
 unfold be4 at h
 simp only [List.cons.injEq, and_true] at h
 obtain ⟨rfl, rfl, rfl, rfl⟩ := h
 unfold nb4; omega
theorem be4_lt (n : Int) : ∀ x ∈ be4 n, 0 ≤ x ∧ x < 256 := fun x hx => by
 unfold be4 at hx
 simp only [List.mem_cons, List.not_mem_nil, or_false] at hx
 rcases hx with rfl | rfl | rfl | rfl <;> omega
end Go.Proofs.YtoonleefemkalaaDoor
namespace Go.Proofs.YtoonleefemkalaaDoor
open Go Go.Proofs.YtoonleefemkalaaDoor.E
theorem c56 (xs : List D) (hk : ∀ x ∈ xs, x.cells.length = 1) (hl : xs.length ≤ 1000000) : Gm Tryd.prog 56 [.d (.sl xs)] [] (.rsl 0 0 xs.length 1) [flat xs] := by
 cases xs with
 | nil =>
  refine gmB 0 Tryd.func56 Tryd.ntmps56 Tryd.results56 (fun S0 O0 w0 m0 hm0 => ?_)
  repeat' first | refine st (by exact rfl) ?_ | fail
  refine toO (g_sleqU u35 rfl (fun b => ofO ?_))
  repeat' first | refine st (by exact rfl) ?_ | fail
  refine cd (by exact rfl) (fun hb => ?_) (fun hb => ?_)
  · repeat' (fail_if_success refine gLe (c := .ops _ []) (Le_nilrowA 2 1 rfl) ?_ rfl); first | refine st (by exact rfl) ?_ | fail
    refine gLe (c := .ops _ []) (Le_nilrowA 2 1 rfl) ?_ rfl
    repeat' first | refine st (by exact rfl) ?_ | fail
    refine Z4 ?_
    exact .cons .nil .nil
  · repeat' first | refine st (by exact rfl) ?_ | fail
    refine gyl rfl rfl (y_buildSlice0 u35 inf9) ?_
    dsimp only [GS.set]
    refine Z2 ?_
    refine gyl rfl rfl (Y_appendN (ys := []) rfl rfl hk (by decide) u35 inf9 (by rfl) (by simp [Value.cells, Value.oneCell']) (by unfold lim; simp only [List.length_cons, List.length_nil]; omega) (by unfold lim; simp only [List.length_cons, List.length_nil]; omega) (Nat.le_of_ble_eq_true rfl)) ?_
    dsimp only [List.length_nil, List.nil_append, List.map_nil]
    repeat' first | refine st (by exact rfl) ?_ | fail
    refine Z4 ?_
    exact .cons .nil .nil
 | cons c r =>
  simp only [List.length_cons] at hl
  refine gmB 0 Tryd.func56 Tryd.ntmps56 Tryd.results56 (fun S0 O0 w0 m0 hm0 => ?_)
  repeat' first | refine st (by exact rfl) ?_ | fail
  refine toO (vq rfl ((q_sleql u35)) (ofO ?_))
  repeat' first | refine cf (by exact rfl) ?_ rfl | refine st (by exact rfl) ?_ | fail
  refine gyl rfl rfl (y_buildSlice0 u35 inf9) ?_
  dsimp only [GS.set]
  refine Z2 ?_
  refine gyl rfl rfl (Y_appendN (ys := (c :: r)) rfl rfl hk (by decide) u35 inf9 (by rfl) (by simp [Value.cells, Value.oneCell']) (by unfold lim; simp only [List.length_cons, List.length_nil]; omega) (by unfold lim; simp only [List.length_cons, List.length_nil]; omega) (Nat.le_of_ble_eq_true rfl)) ?_
  dsimp only [List.length_nil, List.nil_append, List.map_nil]
  repeat' first | refine st (by exact rfl) ?_ | fail
  refine enm (mem' := [flat (c :: r)]) (by exact rfl) rfl ?_
  exact .cons (CSub_flat _ _) .nil
theorem c57 (xs : List D) (hk : ∀ x ∈ xs, x.cells.length = 3) (hl : xs.length ≤ 1000000) : Gm Tryd.prog 57 [.d (.sl xs)] [] (.rsl 0 0 xs.length 3) [flat xs] := by
 cases xs with
 | nil =>
  refine gmB 0 Tryd.func57 Tryd.ntmps57 Tryd.results57 (fun S0 O0 w0 m0 hm0 => ?_)
  repeat' first | refine st (by exact rfl) ?_ | fail
  refine toO (g_sleqU u42 rfl (fun b => ofO ?_))
  repeat' first | refine st (by exact rfl) ?_ | fail
  refine cd (by exact rfl) (fun hb => ?_) (fun hb => ?_)
  · repeat' (fail_if_success refine gLe (c := .ops _ []) (Le_nilrowA 2 3 rfl) ?_ rfl); first | refine st (by exact rfl) ?_ | fail
    refine gLe (c := .ops _ []) (Le_nilrowA 2 3 rfl) ?_ rfl
    repeat' first | refine st (by exact rfl) ?_ | fail
    refine Z4 ?_
    exact .cons .nil .nil
  · repeat' first | refine st (by exact rfl) ?_ | fail
    refine gyl rfl rfl (y_buildSlice0 u42 inf28) ?_
    dsimp only [GS.set]
    refine Z2 ?_
    refine gyl rfl rfl (Y_appendN (ys := []) rfl rfl hk (by decide) u42 inf28 (by rfl) (by simp [Value.cells, Value.oneCell']) (by unfold lim; simp only [List.length_cons, List.length_nil]; omega) (by unfold lim; simp only [List.length_cons, List.length_nil]; omega) (Nat.le_of_ble_eq_true rfl)) ?_
    dsimp only [List.length_nil, List.nil_append, List.map_nil]
    repeat' first | refine st (by exact rfl) ?_ | fail
    refine Z4 ?_
    exact .cons .nil .nil
 | cons c r =>
  simp only [List.length_cons] at hl
  refine gmB 0 Tryd.func57 Tryd.ntmps57 Tryd.results57 (fun S0 O0 w0 m0 hm0 => ?_)
  repeat' first | refine st (by exact rfl) ?_ | fail
  refine toO (vq rfl ((q_sleql u42)) (ofO ?_))
  repeat' first | refine cf (by exact rfl) ?_ rfl | refine st (by exact rfl) ?_ | fail
  refine gyl rfl rfl (y_buildSlice0 u42 inf28) ?_
  dsimp only [GS.set]
  refine Z2 ?_
  refine gyl rfl rfl (Y_appendN (ys := (c :: r)) rfl rfl hk (by decide) u42 inf28 (by rfl) (by simp [Value.cells, Value.oneCell']) (by unfold lim; simp only [List.length_cons, List.length_nil]; omega) (by unfold lim; simp only [List.length_cons, List.length_nil]; omega) (Nat.le_of_ble_eq_true rfl)) ?_
  dsimp only [List.length_nil, List.nil_append, List.map_nil]
  repeat' first | refine st (by exact rfl) ?_ | fail
  refine enm (mem' := [flat (c :: r)]) (by exact rfl) rfl ?_
  exact .cons (CSub_flat _ _) .nil
end Go.Proofs.YtoonleefemkalaaDoor
namespace Go.Proofs.YtoonleefemkalaaDoor
open Go Go.Proofs.YtoonleefemkalaaDoor.E
def idxL {α : Type} (p : α → Bool) (xs : List α) : Int := match xs.findIdx? p with | some i => i | none => -1
variable {z : Nat}
theorem idxL_step {α : Type} {p : α → Bool} {xs : List α} {x : α} (h : ∀ i, i < z → ∀ y, xs[i]? = some y → p y = false) (hx : xs[z]? = some x) (hb : p x = false) : ∀ i, i < z + 1 → ∀ y, xs[i]? = some y → p y = false := fun i hi y hy => by
 by_cases hiz : i = z
 · subst hiz; rw [hx] at hy; injection hy with hy; subst hy; exact hb
 · exact h i (by omega) y hy
theorem idxL_found {α : Type} {p : α → Bool} {xs : List α} {x : α} (h : ∀ i, i < z → ∀ y, xs[i]? = some y → p y = false) (hx : xs[z]? = some x) (hb : p x = true) : PV.d (.int .i64 (z : Nat)) = PV.d (.int .i64 (idxL p xs)) := by
 have hlt := (List.getElem?_eq_some_iff.1 hx).1
 have hxe : xs[z] = x := by rw [List.getElem?_eq_getElem hlt] at hx; injection hx
 have : xs.findIdx? p = some z := by
  rw [List.findIdx?_eq_some_iff_getElem]
  exact ⟨hlt, by rw [hxe]; exact hb, fun j hj => by simpa using h j hj xs[j] (List.getElem?_eq_getElem (by omega))⟩
 simp [idxL, this]
theorem idxL_none {α : Type} {p : α → Bool} {xs : List α} (h : ∀ i, i < xs.length → ∀ y, xs[i]? = some y → p y = false) : PV.d (.int .i64 (-1)) = PV.d (.int .i64 (idxL p xs)) := by
 have : xs.findIdx? p = none := by
  rw [List.findIdx?_eq_none_iff]
  intro x hx
  obtain ⟨i, hi⟩ := List.getElem?_of_mem hx
  exact h i (List.getElem?_eq_some_iff.1 hi).1 x hi
 simp [idxL, this]
variable {α : Type}
theorem idxL_any (p : α → Bool) (xs : List α) : decide (idxL p xs ≥ 0) = xs.any p := by
 unfold idxL
 cases h : xs.findIdx? p with
 | none =>
  rw [List.findIdx?_eq_none_iff] at h
  simp; exact h
 | some i =>
  rw [List.findIdx?_eq_some_iff_getElem] at h
  obtain ⟨h1, h2, _⟩ := h
  have : xs.any p = true := by rw [List.any_eq_true]; exact ⟨xs[i], List.getElem_mem h1, h2⟩
  rw [this]; simp
def lngP (m : Int) (s : ByteArray) : Bool := decide ((s.size : Int) > m)
theorem str_get {l : List ByteArray} {x : ByteArray} (h : l[z]? = some x) : (l.map D.str)[z]? = some (.str x) := by rw [List.getElem?_map, h]; rfl
theorem c55 (s : ByteArray) (m : Int) : Pf Tryd.prog 55 [.str s, .ptr (.int .i64 m)] (.d (.bool (lngP m s))) := by
 refine pfb Tryd.func55 Tryd.ntmps55 Tryd.results55 (fun S0 O0 w0 m0 hm0 => ?_)
 repeat' first | refine st (by exact rfl) ?_ | fail
 exact Y0
theorem c62 (l : List ByteArray) (m : Int) (hl : l.length ≤ 140737488355328) : Pf Tryd.prog 62 [.sl (l.map D.str), .fn (.func 55) [] [.ptr (.int .i64 m)]] (.d (.int .i64 (idxL (lngP m) l))) := by
 refine pfb Tryd.func62 Tryd.ntmps62 Tryd.results62 (fun S0 O0 w0 m0 hm0 => ?_)
 repeat' first | refine st (by exact rfl) ?_ | fail
 have hlen : (l.map D.str).length = l.length := List.length_map ..
 refine gLo (fun z : Nat => ⟨[(0, .d (.sl (l.map D.str))), (1, .d (.fn (.func 55) [] [.ptr (.int .i64 m)])), (7, .d (.int .i64 ((l.map D.str).length : Int))), (8, .d (.int .i64 (z : Int)))], []⟩) (fun z => l.length - z) (fun z => ∀ i, i < z → ∀ y, l[i]? = some y → lngP m y = false) 0 (fun i hi => absurd hi (Nat.not_lt_zero _)) le_of (fun z hz Q' hn he hr hp => ?_)
 repeat' first | refine st (by exact rfl) ?_ | fail
 refine cd (by exact rfl) (fun hb => ?_) (fun hb => ?_)
 · have hlt : z < l.length := by have := of_decide_eq_true hb; omega
   obtain ⟨x, hgx⟩ : ∃ x, l[z]? = some x := ⟨_, List.getElem?_eq_getElem hlt⟩
   repeat' first | refine st (by exact rfl) ?_ | fail
   refine el (by exact rfl) (str_get hgx) ?_ (by omega)
   repeat' first | refine st (by exact rfl) ?_ | refine cl (by exact rfl) (c55 x m) ?_ | fail
   by_cases hx : lngP m x = true
   · refine ct (by exact rfl) ?_ hx
     repeat' first | refine st (by exact rfl) ?_ | fail
     refine toL (hr _ ?_)
     repeat' first | refine st (by exact rfl) ?_ | fail
     exact en (by exact rfl) (idxL_found hz hgx hx)
   · refine cf (by exact rfl) ?_ (eq_false_of_ne_true hx)
     repeat' first | refine st (by exact rfl) ?_ | fail
     rw [show IntKind.i64.wrap ((z : Int) + 1) = ((z + 1 : Nat) : Int) by rw [wrap_i64 (by omega) (by omega)]; rfl]
     exact toL (hn _ (z + 1) (idxL_step hz hgx (eq_false_of_ne_true hx)) (by omega) le_of)
 · have hlt : l.length ≤ z := by have := of_decide_eq_false hb; omega
   repeat' first | refine st (by exact rfl) ?_ | fail
   refine toL (he _ _ ?_)
   repeat' first | refine st (by exact rfl) ?_ | fail
   exact en (by exact rfl) (idxL_none fun i hi y hy => hz i (by omega) y hy)
theorem c54 (l : List ByteArray) (m : Int) (hl : l.length ≤ 140737488355328) : Pf Tryd.prog 54 [.sl (l.map D.str), .fn (.func 55) [] [.ptr (.int .i64 m)]] (.d (.bool (l.any (lngP m)))) := by
 refine pfb Tryd.func54 Tryd.ntmps54 Tryd.results54 (fun S0 O0 w0 m0 hm0 => ?_)
 repeat' first | refine st (by exact rfl) ?_ | refine cl (by exact rfl) (c62 l m hl) ?_ | fail
 exact en (by exact rfl) (by rw [← idxL_any])
theorem c38 (l : List ByteArray) (m : Int) (hl : l.length ≤ 140737488355328) : Pf Tryd.prog 38 [.sl (l.map D.str), .int .i64 m] (.d (.bool (l.any (lngP m)))) := by
 refine pfb Tryd.func38 Tryd.ntmps38 Tryd.results38 (fun S0 O0 w0 m0 hm0 => ?_)
 repeat' (fail_if_success refine fz false (s := ⟨_, [_]⟩) (by exact rfl) ?_); first | refine st (by exact rfl) ?_ | fail
 refine fz false (by exact rfl) ?_
 repeat' first | refine st (by exact rfl) ?_ | refine cl (by exact rfl) (c54 l m hl) ?_ | fail
 exact Y0
end Go.Proofs.YtoonleefemkalaaDoor
namespace Go.Proofs.YtoonleefemkalaaDoor
open Go Go.Proofs.YtoonleefemkalaaDoor.E
structure Ch where
 win : Int
 base : Int
 nxt : Int
 una : List ByteArray
 wai : List ByteArray
 exp : Int
 ear : List Pk
 del : List ByteArray
 tos : List ByteArray
 bak : List ByteArray
def strs (l : List ByteArray) : D := .sl (l.map D.str)
def Ch.d (c : Ch) : D := .agg [.int .i64 c.win, .int .i64 c.base, .int .i64 c.nxt, strs c.una, strs c.wai, .int .i64 c.exp, .sl (c.ear.map Pk.d), strs c.del, strs c.tos, strs c.bak]
theorem pk_get {l : List Pk} {z : Nat} {x : Pk} (h : l[z]? = some x) : (l.map Pk.d)[z]? = some x.d := by rw [List.getElem?_map, h]; rfl
def earB (nxt : Int) : Int → List Pk → Bool
 | _, [] => true
 | last, p :: r => !(p.kd != 1 || decide (p.nu ≤ last) || decide (p.nu ≥ nxt) || decide ((p.bo.size : Int) > 200)) && earB nxt p.nu r
def chk1 (c : Ch) : Bool := decide (c.win < 1) || decide (c.win > 16) || decide (c.base < 0) || decide (c.base > c.nxt) || IntKind.i64.wrap (c.nxt - c.base) != (c.una.length : Int) || decide ((c.una.length : Int) > c.win)
def chk2 (c : Ch) : Bool := (decide ((c.una.length : Int) < c.win) && decide ((c.wai.length : Int) > 0)) || decide (c.nxt > 10000) || decide (IntKind.i64.wrap (c.nxt + (c.wai.length : Int)) > 10000)
def chk3 (c : Ch) : Bool := decide (c.exp < c.base) || decide (c.exp > c.nxt) || c.exp != (c.del.length : Int)
def chk4 (c : Ch) : Bool := c.una.any (lngP 200) || c.wai.any (lngP 200) || c.del.any (lngP 200)
def chk5 (c : Ch) : Bool := decide ((c.tos.length : Int) > 200) || decide ((c.bak.length : Int) > 200) || c.tos.any (lngP 212) || c.bak.any (lngP 212)
def chkC (c : Ch) : Bool := chk1 c || chk2 c || chk3 c || !earB c.nxt c.exp c.ear || chk4 c || chk5 c
theorem c16 (c : Ch) (h0 : c.una.length ≤ 140737488355328) (h1 : c.wai.length ≤ 140737488355328) (h2 : c.ear.length ≤ 140737488355328) (h3 : c.del.length ≤ 140737488355328) (h4 : c.tos.length ≤ 140737488355328) (h5 : c.bak.length ≤ 140737488355328) : Pf Tryd.prog 16 [c.d] (.d (.int .i64 (if chkC c = true then 331 else 0))) := by
 have l0 : (c.una.map D.str).length = c.una.length := List.length_map ..
 have l1 : (c.wai.map D.str).length = c.wai.length := List.length_map ..
 have l3 : (c.del.map D.str).length = c.del.length := List.length_map ..
 unfold Ch.d strs
 refine pfb Tryd.func16 Tryd.ntmps16 Tryd.results16 (fun S0 O0 w0 m0 hm0 => ?_)
 repeat' (fail_if_success refine fz true (s := ⟨_, [_]⟩) (by exact rfl) ?_); first | refine st (by exact rfl) ?_ | fail
 refine fz true (by exact rfl) ?_
 repeat' first | refine st (by exact rfl) ?_ | fail
 refine cd (by exact rfl) (fun hb => ?_) (fun hb => ?_)
 · have hc : chk1 c = true := by rw [l0] at hb; exact hb
   repeat' first | refine st (by exact rfl) ?_ | fail
   exact en (by exact rfl) (by unfold chkC; rw [hc]; rfl)
 · have hc1 : chk1 c = false := by rw [l0] at hb; exact hb
   repeat' first | refine st (by exact rfl) ?_ | fail
   refine cd (by exact rfl) (fun hb => ?_) (fun hb => ?_)
   · have hc : chk2 c = true := by rw [l0, l1] at hb; exact hb
     repeat' first | refine st (by exact rfl) ?_ | fail
     exact en (by exact rfl) (by unfold chkC; rw [hc1, hc]; rfl)
   have hc2 : chk2 c = false := by rw [l0, l1] at hb; exact hb
   repeat' first | refine st (by exact rfl) ?_ | fail
   refine cd (by exact rfl) (fun hb => ?_) (fun hb => ?_)
   · have hc : chk3 c = true := by rw [l3] at hb; exact hb
     repeat' first | refine st (by exact rfl) ?_ | fail
     exact en (by exact rfl) (by unfold chkC; rw [hc1, hc2, hc]; rfl)
   have hc3 : chk3 c = false := by rw [l3] at hb; exact hb
   repeat' first | refine st (by exact rfl) ?_ | fail
   have le : (c.ear.map Pk.d).length = c.ear.length := List.length_map ..
   refine gLo (fun x : Nat × Int => ⟨[(1, .d (.ptr (.agg [.int .i64 c.win, .int .i64 c.base, .int .i64 c.nxt, .sl (c.una.map D.str), .sl (c.wai.map D.str), .int .i64 c.exp, .sl (c.ear.map Pk.d), .sl (c.del.map D.str), .sl (c.tos.map D.str), .sl (c.bak.map D.str)]))), (4, .d (.int .i64 x.2)), (92, .d (.sl (c.ear.map Pk.d))), (93, .d (.int .i64 ((c.ear.map Pk.d).length : Int))), (94, .d (.int .i64 (x.1 : Int)))], []⟩) (fun x => c.ear.length - x.1) (fun x => x.1 ≤ c.ear.length ∧ earB c.nxt c.exp c.ear = earB c.nxt x.2 (c.ear.drop x.1)) (0, c.exp) ⟨Nat.zero_le _, rfl⟩ le_of (fun x hx Q' hn he hr hp => ?_)
   obtain ⟨z, a⟩ := x
   obtain ⟨hz, hinv⟩ := hx
   dsimp only at hz hinv ⊢
   repeat' first | refine st (by exact rfl) ?_ | fail
   refine cd (by exact rfl) (fun hb2 => ?_) (fun hb2 => ?_)
   · have hlt : z < c.ear.length := by have := of_decide_eq_true hb2; omega
     obtain ⟨p, hp2⟩ : ∃ p, c.ear[z]? = some p := ⟨_, List.getElem?_eq_getElem hlt⟩
     have hdr : c.ear.drop z = p :: c.ear.drop (z + 1) := by
      rw [List.drop_eq_getElem_cons hlt]; rw [List.getElem?_eq_getElem hlt] at hp2; injection hp2 with hp2; rw [hp2]
     rw [hdr, earB] at hinv
     repeat' first | refine st (by exact rfl) ?_ | fail
     refine el (by exact rfl) (pk_get hp2) ?_ (by omega)
     unfold Pk.d
     iterate 3 refine st (by exact rfl) ?_
     refine fz true (by exact rfl) ?_
     repeat' first | refine st (by exact rfl) ?_ | fail
     refine cd (by exact rfl) (fun hb3 => ?_) (fun hb3 => ?_)
     · have hbad : (p.kd != 1 || decide (p.nu ≤ a) || decide (p.nu ≥ c.nxt) || decide ((p.bo.size : Int) > 200)) = true := hb3
       rw [hbad] at hinv
       repeat' first | refine st (by exact rfl) ?_ | fail
       refine toL (hr _ ?_)
       repeat' first | refine st (by exact rfl) ?_ | fail
       exact en (by exact rfl) (by unfold chkC; rw [hc1, hc2, hc3, hinv]; rfl)
     · have hgood : (p.kd != 1 || decide (p.nu ≤ a) || decide (p.nu ≥ c.nxt) || decide ((p.bo.size : Int) > 200)) = false := hb3
       rw [hgood] at hinv
       repeat' first | refine st (by exact rfl) ?_ | fail
       rw [show IntKind.i64.wrap ((z : Int) + 1) = ((z + 1 : Nat) : Int) by rw [wrap_i64 (by omega) (by omega)]; rfl]
       exact toL (hn _ (z + 1, p.nu) ⟨hlt, by rw [hinv]; rfl⟩ (by dsimp only; omega) le_of)
   · have hle : c.ear.length ≤ z := by have := of_decide_eq_false hb2; omega
     have hev : earB c.nxt c.exp c.ear = true := by rw [hinv, List.drop_eq_nil_of_le hle]; rfl
     have qa := c38 c.una 200 h0
     have qb := c38 c.wai 200 h1
     have qc := c38 c.del 200 h3
     have qd := c38 c.tos 212 h4
     have qe := c38 c.bak 212 h5
     repeat' first | refine st (by exact rfl) ?_ | fail
     refine toL (he _ _ ?_)
     repeat' first | refine st (by exact rfl) ?_ | refine cl (by exact rfl) qa ?_ | refine clg (by exact rfl) (fun _ => qb) ?_ | refine clg (by exact rfl) (fun _ => qc) ?_ | fail
     refine cd (by exact rfl) (fun hb4 => ?_) (fun hb4 => ?_)
     · have hc4 : chk4 c = true := hb4
       repeat' first | refine st (by exact rfl) ?_ | fail
       exact en (by exact rfl) (by unfold chkC; rw [hc1, hc2, hc3, hev, hc4]; rfl)
     have hc4 : chk4 c = false := hb4
     have l4 : (c.tos.map D.str).length = c.tos.length := List.length_map ..
     have l5 : (c.bak.map D.str).length = c.bak.length := List.length_map ..
     repeat' first | refine st (by exact rfl) ?_ | refine clg (by exact rfl) (fun _ => qd) ?_ | refine clg (by exact rfl) (fun _ => qe) ?_ | fail
     refine cd (by exact rfl) (fun hb5 => ?_) (fun hb5 => ?_)
     · have hc5 : chk5 c = true := by rw [l4, l5] at hb5; exact hb5
       repeat' first | refine st (by exact rfl) ?_ | fail
       exact en (by exact rfl) (by unfold chkC; rw [hc1, hc2, hc3, hev, hc4, hc5]; rfl)
     · have hc5 : chk5 c = false := by rw [l4, l5] at hb5; exact hb5
       repeat' first | refine st (by exact rfl) ?_ | fail
       exact en (by exact rfl) (by unfold chkC; rw [hc1, hc2, hc3, hev, hc4, hc5]; rfl)
end Go.Proofs.YtoonleefemkalaaDoor
namespace Go.Proofs.YtoonleefemkalaaDoor
open Go Go.Proofs.YtoonleefemkalaaDoor.E
structure Pp where
 u1 : List D
 u2 : List D
 w1 : List D
 w2 : List D
 d1 : List D
 d2 : List D
 t1 : List D
 t2 : List D
 b1 : List D
 b2 : List D
 e1 : List D
 e2 : List D
def p0 : Pp := ⟨[], [], [], [], [], [], [], [], [], [], [], []⟩
def sD (l : List ByteArray) : List D := l.map D.str
def pD (l : List Pk) : List D := l.map Pk.d
structure Pp.Ok (p : Pp) : Prop where
 u1 : ∀ x ∈ p.u1, x.cells.length = 1
 u2 : ∀ x ∈ p.u2, x.cells.length = 1
 w1 : ∀ x ∈ p.w1, x.cells.length = 1
 w2 : ∀ x ∈ p.w2, x.cells.length = 1
 d1 : ∀ x ∈ p.d1, x.cells.length = 1
 d2 : ∀ x ∈ p.d2, x.cells.length = 1
 t1 : ∀ x ∈ p.t1, x.cells.length = 1
 t2 : ∀ x ∈ p.t2, x.cells.length = 1
 b1 : ∀ x ∈ p.b1, x.cells.length = 1
 b2 : ∀ x ∈ p.b2, x.cells.length = 1
 e1 : ∀ x ∈ p.e1, x.cells.length = 3
 e2 : ∀ x ∈ p.e2, x.cells.length = 3
theorem p0_ok : p0.Ok := by constructor <;> intro x hx <;> cases hx
theorem sD_len (l : List ByteArray) : (sD l).length = l.length := List.length_map ..
theorem pD_len (l : List Pk) : (pD l).length = l.length := List.length_map ..
theorem sD_k (l : List ByteArray) : ∀ x ∈ sD l, x.cells.length = 1 := fun x hx => by
 obtain ⟨y, _, rfl⟩ := List.mem_map.1 hx; rfl
theorem pD_k (l : List Pk) : ∀ x ∈ pD l, x.cells.length = 3 := fun x hx => by
 obtain ⟨y, _, rfl⟩ := List.mem_map.1 hx; rfl
theorem row_k {k : Nat} {a b c : List D} (ha : ∀ x ∈ a, x.cells.length = k) (hb : ∀ x ∈ b, x.cells.length = k) (hc : ∀ x ∈ c, x.cells.length = k) : ∀ x ∈ a ++ b ++ c, x.cells.length = k := fun x hx => by
 rcases List.mem_append.1 hx with hx | hx
 · rcases List.mem_append.1 hx with hx | hx
   · exact ha x hx
   · exact hb x hx
 · exact hc x hx
def rowV (b k : Nat) (pre xs post : List D) : PV := .rsl b (rlo k pre xs post) xs.length k
def ChA (c : Ch) (p : Pp) (u w d t b e : Nat) : List PV :=
 [.d (.int .i64 c.win), .d (.int .i64 c.base), .d (.int .i64 c.nxt), rowV u 1 p.u1 (sD c.una) p.u2, rowV w 1 p.w1 (sD c.wai) p.w2, .d (.int .i64 c.exp), rowV e 3 p.e1 (pD c.ear) p.e2, rowV d 1 p.d1 (sD c.del) p.d2, rowV t 1 p.t1 (sD c.tos) p.t2, rowV b 1 p.b1 (sD c.bak) p.b2]
def ChR (c : Ch) (p : Pp) : List (List PV) := [flat (p.u1 ++ sD c.una ++ p.u2), flat (p.w1 ++ sD c.wai ++ p.w2), flat (p.d1 ++ sD c.del ++ p.d2), flat (p.t1 ++ sD c.tos ++ p.t2), flat (p.b1 ++ sD c.bak ++ p.b2), flat (p.e1 ++ pD c.ear ++ p.e2)]
def ChM (c : Ch) (p : Pp) : List (List PV) := ChA c p 1 2 3 4 5 6 :: ChR c p
theorem ChR_rens (f : Nat → Nat) (c : Ch) (p : Pp) : (ChR c p).map (PV.rens f) = ChR c p := by simp only [ChR, List.map_cons, List.map_nil, rens_flat]
theorem ChA_rens (f : Nat → Nat) (c : Ch) (p : Pp) (u w d t b e : Nat) : PV.rens f (ChA c p u w d t b e) = ChA c p (f u) (f w) (f d) (f t) (f b) (f e) := rfl
theorem ChM_rens (f : Nat → Nat) (c : Ch) (p : Pp) : (ChM c p).map (PV.rens f) = ChA c p (f 1) (f 2) (f 3) (f 4) (f 5) (f 6) :: ChR c p := by
 rw [ChM, List.map_cons, ChR_rens, ChA_rens]
theorem refs_flat (n : Nat) : ∀ xs : List D, PV.refsBs n (flat xs) = true
 | [] => rfl
 | x :: xs => by
  rw [flat_cons]
  have h1 : ∀ (ds : List D) (ps : List PV), PV.refsBs n ps = true → PV.refsBs n (ds.map PV.d ++ ps) = true := by
   intro ds
   induction ds with
   | nil => exact fun _ h => h
   | cons d ds ih => intro ps h; show (true && PV.refsBs n (ds.map PV.d ++ ps)) = true; rw [ih ps h]; rfl
  exact h1 _ _ (refs_flat n xs)
theorem ChR_refs (n : Nat) (c : Ch) (p : Pp) : (ChR c p).all (PV.refsBs n) = true := by simp only [ChR, List.all_cons, List.all_nil, refs_flat, Bool.and_self]
theorem rowV0 (b k : Nat) (xs : List D) : PV.rsl b 0 xs.length k = rowV b k [] xs [] := by rw [rowV, rlo_zero]
theorem rowF0 (xs : List D) : flat xs = flat ([] ++ xs ++ []) := by simp
structure Ch.Few (c : Ch) : Prop where
 una : c.una.length ≤ 1000000
 wai : c.wai.length ≤ 1000000
 ear : c.ear.length ≤ 1000000
 del : c.del.length ≤ 1000000
 tos : c.tos.length ≤ 1000000
 bak : c.bak.length ≤ 1000000
theorem nrefs_map_d (b : Nat) : ∀ ds : List D, PV.nrefs b (ds.map PV.d) = true
 | [] => rfl
 | _ :: ds => by simp only [List.map_cons, PV.nrefs, PV.nref, nrefs_map_d b ds, Bool.and_self]
theorem nrefs_append (b : Nat) : ∀ xs ys : List PV, PV.nrefs b (xs ++ ys) = (PV.nrefs b xs && PV.nrefs b ys)
 | [], _ => by simp [PV.nrefs]
 | a :: xs, ys => by simp only [List.cons_append, PV.nrefs, nrefs_append b xs ys, Bool.and_assoc]
theorem nrefs_flat (b : Nat) : ∀ xs : List D, PV.nrefs b (flat xs) = true
 | [] => rfl
 | x :: xs => by rw [flat_cons, nrefs_append, nrefs_map_d, nrefs_flat b xs]; rfl
def unk (n : Nat) : List PV := List.replicate n .undef
theorem CSub_unk (n : Nat) : ∀ l : List PV, CSub n l (unk l.length)
 | [] => .nil
 | _ :: l => .cons (.inr (.inl rfl)) rfl (CSub_unk n l)
theorem ChR_sub (n : Nat) (c : Ch) (p : Pp) : MSub n (ChR c p) (ChR c p) := .cons (CSub_flat _ _) (.cons (CSub_flat _ _) (.cons (CSub_flat _ _) (.cons (CSub_flat _ _) (.cons (CSub_flat _ _) (.cons (CSub_flat _ _) .nil)))))
theorem cn {n : Nat} {S0 : Reg} {O0 : Owns} {w0 : World} {m0 Bs : List Nat} {ds : List Deferred} {fr : List Fr} {Q : Exit → GS → Prop} {ops : Array Oper} {i : Nat} {l : List Nat} {sl : List (Nat × PV)} {mem mem1 mem' : List (List PV)} {t : Nat} {f : FuncId} {args : List PV} {r r' : PV} (h : cms ops.toList n i sl = some (t, f, args)) (hc : Gm Tryd.prog f args [] r mem1) (hg : GF ⟨Tryd.prog, n, S0, O0, w0, m0, Bs, ds⟩ fr (.ops ops l) Q ⟨(t, r') :: sl, mem'⟩) (hr : r.ren (renN [] mem.length) = r' := by rfl) (hm : mem ++ mem1.map (PV.rens (renN [] mem.length)) = mem') (hargs : args = PV.rens (fun b => ([] : List Nat).getD b 0) args := by rfl) (hra : PV.refsBs 0 args = true := by rfl) : GF ⟨Tryd.prog, n, S0, O0, w0, m0, Bs, ds⟩ fr (.ops ops (i :: l)) Q ⟨sl, mem⟩ := gNew h hc hargs hra hr hm (nrefLM_nil _ _) hg
theorem c40 (c : Ch) (h : c.Few) : Gm Tryd.prog 40 [.d c.d] [] (.agg (ChA c p0 3 4 5 6 7 8)) ([unk 10, unk 10, unk 5] ++ ChR c p0) := by
 have q1 := c56 (sD c.una) (sD_k _) (by rw [sD_len]; exact h.una)
 have q2 := c56 (sD c.wai) (sD_k _) (by rw [sD_len]; exact h.wai)
 have q3 := c56 (sD c.del) (sD_k _) (by rw [sD_len]; exact h.del)
 have q4 := c56 (sD c.tos) (sD_k _) (by rw [sD_len]; exact h.tos)
 have q5 := c56 (sD c.bak) (sD_k _) (by rw [sD_len]; exact h.bak)
 have q6 := c57 (pD c.ear) (pD_k _) (by rw [pD_len]; exact h.ear)
 refine gmB 0 Tryd.func40 Tryd.ntmps40 Tryd.results40 (fun S0 O0 w0 m0 hm0 => ?_)
 repeat' first | refine st (by exact rfl) ?_ | fail
 refine gyl rfl rfl (Y_buildSliceR (ps := [(0, 3), (0, 4), (0, 7), (0, 8), (0, 9)]) (xs := [.tmp 5, .tmp 6, .tmp 7, .tmp 8, .tmp 9]) u99 inf86 rfl rfl rfl rfl (by decide) (by decide) (Nat.le_of_ble_eq_true rfl)) ?_
 repeat' first | refine st (by exact rfl) ?_ | fail
 refine gRn 6 ?_
 repeat' first | refine st (by exact rfl) ?_ | fail
 refine ct (by exact rfl) ?_ rfl
 repeat' first | refine st (by exact rfl) ?_ | fail
 refine Z0 ?_
 repeat' first | refine st (by exact rfl) ?_ | fail
 refine cn (r' := .rsl 3 0 _ 1) (by exact rfl) q1 ?_ (hm := by simp only [List.map_cons, List.map_nil, rens_flat, List.cons_append, List.nil_append]; rfl)
 repeat' first | refine st (by exact rfl) ?_ | fail
 refine ct (by exact rfl) ?_ rfl
 repeat' first | refine st (by exact rfl) ?_ | fail
 refine Z0 ?_
 repeat' first | refine st (by exact rfl) ?_ | fail
 refine cn (r' := .rsl 4 0 _ 1) (by exact rfl) q2 ?_ (hm := by simp only [List.map_cons, List.map_nil, rens_flat, List.cons_append, List.nil_append]; rfl)
 repeat' first | refine st (by exact rfl) ?_ | fail
 refine ct (by exact rfl) ?_ rfl
 repeat' first | refine st (by exact rfl) ?_ | fail
 refine Z0 ?_
 repeat' first | refine st (by exact rfl) ?_ | fail
 refine cn (r' := .rsl 5 0 _ 1) (by exact rfl) q3 ?_ (hm := by simp only [List.map_cons, List.map_nil, rens_flat, List.cons_append, List.nil_append]; rfl)
 repeat' first | refine st (by exact rfl) ?_ | fail
 refine ct (by exact rfl) ?_ rfl
 repeat' first | refine st (by exact rfl) ?_ | fail
 refine Z0 ?_
 repeat' first | refine st (by exact rfl) ?_ | fail
 refine cn (r' := .rsl 6 0 _ 1) (by exact rfl) q4 ?_ (hm := by simp only [List.map_cons, List.map_nil, rens_flat, List.cons_append, List.nil_append]; rfl)
 repeat' first | refine st (by exact rfl) ?_ | fail
 refine ct (by exact rfl) ?_ rfl
 repeat' first | refine st (by exact rfl) ?_ | fail
 refine Z0 ?_
 repeat' first | refine st (by exact rfl) ?_ | fail
 refine cn (r' := .rsl 7 0 _ 1) (by exact rfl) q5 ?_ (hm := by simp only [List.map_cons, List.map_nil, rens_flat, List.cons_append, List.nil_append]; rfl)
 repeat' first | refine st (by exact rfl) ?_ | fail
 refine cf (by exact rfl) ?_ rfl
 repeat' first | refine st (by exact rfl) ?_ | fail
 refine cn (r' := .rsl 8 0 _ 3) (by exact rfl) q6 ?_ (hm := by simp only [List.map_cons, List.map_nil, rens_flat, List.cons_append, List.nil_append]; rfl)
 repeat' first | refine st (by exact rfl) ?_ | fail
 refine enm (mem' := [unk 10, unk 10, unk 5] ++ ChR c p0) (by exact rfl) ?_ ?_
 · simp only [rowV0]; rfl
 · simp only [rowF0 (sD c.una), rowF0 (sD c.wai), rowF0 (sD c.del), rowF0 (sD c.tos), rowF0 (sD c.bak), rowF0 (pD c.ear)]
   exact .cons (CSub_unk _ _) (.cons (CSub_unk _ _) (.cons (CSub_unk _ _) (ChR_sub _ c p0)))
end Go.Proofs.YtoonleefemkalaaDoor
namespace Go.Proofs.YtoonleefemkalaaDoor
open Go Go.Proofs.YtoonleefemkalaaDoor.E
theorem gjB (jn : Nat) {f : FuncId} {fn : Func} {c : Code} {args : List PV} {mem : List (List PV)} {R : PV → List (List PV) → Prop} {n : Nat} {rvs : List ResultVar} {slots : List (Nat × PV)} (k : Nat) (hf : Tryd.prog.funcs[f]? = some fn) (hn : fn.ntmps = n) (hres : fn.results = rvs.toArray)
 (h : ∀ S0 O0 w0 m0, m0.length = min jn k → GF ⟨Tryd.prog, n, S0, O0, w0, m0, [], []⟩ [] (.code c) (E.Fin Tryd.prog rvs k R) ⟨slots, mem⟩)
 (hb : fn.body = some c := by rfl) (hnm : (fn.name == "runtime.NumGoroutine") = false := by rfl) (hal : args.length ≤ n := by exact of_decide_eq_true rfl) (hsl : (List.range args.length).zip args = slots := by rfl) (hk : mem.length = k := by rfl) : Gj jn Tryd.prog f args mem R :=
 ⟨⟨fn, hf, by rw [hb]; rfl, hnm⟩, gcall_bodyJ jn n rvs slots k hf hb hn hal hres hsl hk h⟩
theorem enj {K : Ctx} {rvs : List ResultVar} {sl : List (Nat × PV)} {mem mem' : List (List PV)} {e : Exit} {k : Nat} {q : PV} {R : PV → List (List PV) → Prop} (h : E.endK tab sl mem rvs e = some q) (hr : R q mem') (hm : MSub mem'.length mem mem') (hb : PV.refsB mem'.length q = true := by rfl) (hn : k ≤ mem'.length := by exact of_decide_eq_true rfl) : GF K [] (.leave e) (E.Fin Tryd.prog rvs k R) ⟨sl, mem⟩ := gEndM tabOk h hb hn hm hr
theorem CSub_ChA (c : Ch) (p : Pp) : CSub 7 (ChA c p 1 2 3 4 5 6) (ChA c p 1 2 3 4 5 6) := by
 unfold ChA
 repeat' first | exact .nil | refine .cons (.inl rfl) rfl ?_
theorem ChM_sub (c : Ch) (p : Pp) (ms : List (List PV)) : MSub 7 (ChM c p ++ ms) (ChM c p) :=
 .cons (CSub_ChA c p) (.cons (CSub_flat _ _) (.cons (CSub_flat _ _) (.cons (CSub_flat _ _) (.cons (CSub_flat _ _) (.cons (CSub_flat _ _) (.cons (CSub_flat _ _) .nil))))))
theorem sD_snoc (l : List ByteArray) (s : ByteArray) : sD l ++ [.str s] = sD (l ++ [s]) := by simp [sD]
def Mt (f : FuncId) (args : List PV) (c : Ch) (r : PV) (c' : Ch) : Prop := ∀ p : Pp, p.Ok → Gj 1 Tryd.prog f args (ChM c p) (fun q m => q = r ∧ ∃ p' : Pp, p'.Ok ∧ m = ChM c' p')
def sendT (c : Ch) (q : Pk) : Ch := if c.tos.length < 200 then { c with tos := c.tos ++ [enC q] } else c
def sendB (c : Ch) (q : Pk) : Ch := if c.bak.length < 200 then { c with bak := c.bak ++ [enC q] } else c
theorem c58t (c : Ch) (q : Pk) : Mt 58 [.ref 0 8, .d q.d] c (.tup []) (sendT c q) := by
 intro p hp
 have q10 := c10 q
 unfold Pk.d at q10 ⊢
 refine gjB 1 7 Tryd.func58 Tryd.ntmps58 Tryd.results58 (fun S0 O0 w0 m0 hm0 => ?_)
 repeat' first | refine st (by exact rfl) ?_ | fail
 refine cd (by exact rfl) (fun hb => ?_) (fun hb => ?_)
 · have hlt : c.tos.length < 200 := by have := of_decide_eq_true hb; rw [sD_len] at this; omega
   repeat' first | refine st (by exact rfl) ?_ | refine cl (by exact rfl) q10 ?_ | refine bs (by exact rfl) ?_ | fail
   refine gCell 0 8 rfl rfl ?_ rfl rfl
   refine gApG (pre := p.t1) (xs := sD c.tos) (post := p.t2) (ys := [.str (enC q)]) rfl rfl rfl rfl rfl (by rw [hm0]; decide) (by simp only [ChM, ChR, List.set_cons_zero, List.set_cons_succ, nrefM, nrefs_flat, Bool.or_true, Bool.true_and, Bool.and_true] <;> rfl) rfl (by simp) (row_k hp.t1 (sD_k _) hp.t2) (by simp [D.cells]) (by decide) u35 inf9 rfl (by simp [Value.cells, Value.oneCell']) (by rw [sD_len]; unfold lim; simp; omega) (by rw [sD_len]; unfold lim; simp; omega) (Nat.le_of_ble_eq_true rfl) (fun a b hab => ?_)
   rw [← List.length_append, sD_snoc]
   repeat' first | refine st (by exact rfl) ?_ | fail
   have hs : sendT c q = { c with tos := c.tos ++ [enC q] } := if_pos hlt
   rw [hs]
   exact enj (mem' := ChM { c with tos := c.tos ++ [enC q] } { p with t1 := a, t2 := b }) (by exact rfl) ⟨rfl, { p with t1 := a, t2 := b }, { hp with t1 := fun x hx => hab x (List.mem_append_left _ (List.mem_append_left _ hx)), t2 := fun x hx => hab x (List.mem_append_right _ hx) }, rfl⟩ (ChM_sub { c with tos := c.tos ++ [enC q] } { p with t1 := a, t2 := b } [_])
 · have hs : sendT c q = c := if_neg (by have := of_decide_eq_false hb; rw [sD_len] at this; omega)
   rw [hs]
   repeat' first | refine st (by exact rfl) ?_ | fail
   exact enj (mem' := ChM c p) (by exact rfl) ⟨rfl, _, hp, rfl⟩ (ChM_sub c p [_])
theorem c58b (c : Ch) (q : Pk) : Mt 58 [.ref 0 9, .d q.d] c (.tup []) (sendB c q) := by
 intro p hp
 have q10 := c10 q
 unfold Pk.d at q10 ⊢
 refine gjB 1 7 Tryd.func58 Tryd.ntmps58 Tryd.results58 (fun S0 O0 w0 m0 hm0 => ?_)
 repeat' first | refine st (by exact rfl) ?_ | fail
 refine cd (by exact rfl) (fun hb => ?_) (fun hb => ?_)
 · have hlt : c.bak.length < 200 := by have := of_decide_eq_true hb; rw [sD_len] at this; omega
   repeat' first | refine st (by exact rfl) ?_ | refine cl (by exact rfl) q10 ?_ | refine bs (by exact rfl) ?_ | fail
   refine gCell 0 9 rfl rfl ?_ rfl rfl
   refine gApG (pre := p.b1) (xs := sD c.bak) (post := p.b2) (ys := [.str (enC q)]) rfl rfl rfl rfl rfl (by rw [hm0]; decide) (by simp only [ChM, ChR, List.set_cons_zero, List.set_cons_succ, nrefM, nrefs_flat, Bool.or_true, Bool.true_and, Bool.and_true] <;> rfl) rfl (by simp) (row_k hp.b1 (sD_k _) hp.b2) (by simp [D.cells]) (by decide) u35 inf9 rfl (by simp [Value.cells, Value.oneCell']) (by rw [sD_len]; unfold lim; simp; omega) (by rw [sD_len]; unfold lim; simp; omega) (Nat.le_of_ble_eq_true rfl) (fun a b hab => ?_)
   rw [← List.length_append, sD_snoc]
   repeat' first | refine st (by exact rfl) ?_ | fail
   have hs : sendB c q = { c with bak := c.bak ++ [enC q] } := if_pos hlt
   rw [hs]
   exact enj (mem' := ChM { c with bak := c.bak ++ [enC q] } { p with b1 := a, b2 := b }) (by exact rfl) ⟨rfl, { p with b1 := a, b2 := b }, { hp with b1 := fun x hx => hab x (List.mem_append_left _ (List.mem_append_left _ hx)), b2 := fun x hx => hab x (List.mem_append_right _ hx) }, rfl⟩ (ChM_sub { c with bak := c.bak ++ [enC q] } { p with b1 := a, b2 := b } [_])
 · have hs : sendB c q = c := if_neg (by have := of_decide_eq_false hb; rw [sD_len] at this; omega)
   rw [hs]
   repeat' first | refine st (by exact rfl) ?_ | fail
   exact enj (mem' := ChM c p) (by exact rfl) ⟨rfl, _, hp, rfl⟩ (ChM_sub c p [_])
theorem setAll_ChM (c c' : Ch) (p p' : Pp) (extra : List (List PV)) (n : Nat) : setAll (ChM c p ++ extra) [0, 1, 2, 3, 4, 5, 6] (((ChM c' p').take 7).map (PV.rens (renN [0, 1, 2, 3, 4, 5, 6] n))) ++ ((ChM c' p').drop 7).map (PV.rens (renN [0, 1, 2, 3, 4, 5, 6] n)) = ChM c' p' ++ extra := by
 rw [show (ChM c' p').take 7 = ChM c' p' from rfl, show (ChM c' p').drop 7 = [] from rfl, ChM_rens, List.map_nil, List.append_nil]
 rfl
theorem nrefL_flat (L : List Nat) (xs : List D) : (L.all fun b => PV.nrefs b (flat xs)) = true := List.all_eq_true.2 fun b _ => nrefs_flat b xs
def exB (L : List Nat) (extra : List (List PV)) : Bool := extra.all fun c => L.all fun b => PV.nrefs b c
theorem nrefLM_ex (L sel : List Nat) : ∀ (extra : List (List PV)) (k : Nat), exB L extra = true → nrefLM L sel k extra = true
 | [], _, _ => rfl
 | c :: r, k, h => by
  unfold exB at h
  rw [List.all_cons, Bool.and_eq_true] at h
  show ((sel.contains k || L.all fun b => PV.nrefs b c) && nrefLM L sel (k + 1) r) = true
  rw [h.1, nrefLM_ex L sel r (k + 1) h.2]
  simp
theorem ChM_nref (c : Ch) (p : Pp) (extra : List (List PV)) (h : exB [1, 2, 3, 4, 5, 6] extra = true) : nrefLM [1, 2, 3, 4, 5, 6] [0, 1, 2, 3, 4, 5, 6] 0 (ChM c p ++ extra) = true := by
 have h1 := nrefLM_ex [1, 2, 3, 4, 5, 6] [0, 1, 2, 3, 4, 5, 6] extra 7 h
 show ((true || _) && ((true || _) && ((true || _) && ((true || _) && ((true || _) && ((true || _) && ((true || _) && _))))))) = true
 simp only [Bool.true_or, Bool.true_and]
 exact h1
theorem cj {n : Nat} {S0 : Reg} {O0 : Owns} {w0 : World} {m0 Bs : List Nat} {ds : List Deferred} {fr : List Fr} {Q : Exit → GS → Prop} {ops : Array Oper} {i : Nat} {l : List Nat} {sl : List (Nat × PV)} {extra : List (List PV)} {t : Nat} {f : FuncId} {args : List PV} {c c' : Ch} {p : Pp} {r : PV} (h : cms ops.toList n i sl = some (t, f, args)) (hc : Mt f args c r c') (hp : p.Ok)
 (hg : ∀ p', p'.Ok → GF ⟨Tryd.prog, n, S0, O0, w0, m0, Bs, ds⟩ fr (.ops ops l) Q ⟨(t, r) :: sansL [1, 2, 3, 4, 5, 6] sl, ChM c' p' ++ extra⟩) (hm0 : m0.length ≤ 1 := by omega) (hargs : args = PV.rens (fun b => [0, 1, 2, 3, 4, 5, 6].getD b 0) args := by rfl) (hra : PV.refsBs 7 args = true := by rfl) (hr : r.ren (renN [0, 1, 2, 3, 4, 5, 6] (ChM c p ++ extra).length) = r := by rfl) (hx : exB [1, 2, 3, 4, 5, 6] extra = true := by rfl) : GF ⟨Tryd.prog, n, S0, O0, w0, m0, Bs, ds⟩ fr (.ops ops (i :: l)) Q ⟨sl, ChM c p ++ extra⟩ := by
 refine gJ (jn := 1) [0, 1, 2, 3, 4, 5, 6] h (hc p hp) hargs (by decide) (fun b hb => ?_) ?_ hra ?_ (fun b hb => ?_) (ChM_nref c p extra hx) ?_
 · have : b < 7 := by
    have h : ∀ b ∈ [0, 1, 2, 3, 4, 5, 6], b < 7 := by decide
    exact h b hb
   show b < (ChM c p ++ extra).length
   rw [List.length_append]
   have h7 : (ChM c p).length = 7 := rfl
   omega
 · rw [ChM_rens]; rfl
 · show (ChM c p).all (PV.refsBs 7) = true
   rw [show (ChM c p).all (PV.refsBs 7) = (PV.refsBs 7 (ChA c p 1 2 3 4 5 6) && (ChR c p).all (PV.refsBs 7)) from rfl, ChR_refs]; rfl
 · have h1 : 1 ≤ b := by
    have h : ∀ b ∈ [1, 2, 3, 4, 5, 6], 1 ≤ b := by decide
    exact h b hb
   exact Nat.le_trans hm0 h1
 · rintro q m ⟨rfl, p', hp', rfl⟩ _
   have h1 := setAll_ChM c c' p p' extra (ChM c p ++ extra).length
   have h2 : stJ 1 [0, 1, 2, 3, 4, 5, 6] sl (ChM c p ++ extra) t q (ChM c' p') = ⟨(t, q) :: sansL [1, 2, 3, 4, 5, 6] sl, ChM c' p' ++ extra⟩ := by
    unfold stJ
    rw [hr]
    exact congrArg (GS.mk _) h1
   rw [h2]
   exact hg p' hp'
def dat (c : Ch) (m : ByteArray) : Pk := ⟨1, c.nxt, m⟩
def nextC (c : Ch) (m : ByteArray) : Ch := { sendT { c with una := c.una ++ [m] } ⟨1, c.nxt, m⟩ with nxt := IntKind.i64.wrap ((sendT { c with una := c.una ++ [m] } ⟨1, c.nxt, m⟩).nxt + 1) }
def Kps (sl : List (Nat × PV)) : List (Nat × PV) → Prop
 | [] => True
 | (t, p) :: r => sl.lookup t = some p ∧ Kps sl r
theorem Kps_get {sl : List (Nat × PV)} : ∀ {l : List (Nat × PV)}, Kps sl l → ∀ t p, l.lookup t = some p → sl.lookup t = some p
 | [], _, _, _, h => by cases h
 | (u, q) :: r, hk, t, p, h => by
  rw [List.lookup_cons] at h
  cases htu : t == u with
  | true =>
   rw [htu] at h
   injection h with h
   have : t = u := by simpa using htu
   rw [this, ← h]; exact hk.1
  | false => rw [htu] at h; exact Kps_get hk.2 t p h
theorem kp (sl' : List (Nat × PV)) {K : Ctx} {fr : List Fr} {c : Cf} {Q : Exit → GS → Prop} {sl : List (Nat × PV)} {mem : List (List PV)} (hk : Kps sl sl') (hg : GF K fr c Q ⟨sl', mem⟩) (hc : goes c = true := by rfl) : GF K fr c Q ⟨sl, mem⟩ :=
 gLe (Le_slots (s := ⟨sl, mem⟩) (s' := ⟨sl', mem⟩) rfl fun t p hp => .inl (Kps_get hk t p hp)) hg hc
theorem tabC (X tX : Nat) (es : List (Nat × Nat × PV)) (nums : List Nat) {n : Nat} {S0 : Reg} {O0 : Owns} {w0 : World} {m0 Bs : List Nat} {ds : List Deferred} {fr : List Fr} {Q : Exit → GS → Prop} {id : Nat} {ops : Array Oper} {sl base : List (Nat × PV)} {ds' : List Nat} {extra : List (List PV)} {f : FuncId} {args : List PV} {c c' : Ch} {p : Pp} {r : PV} {preX : List (Nat × PV)}
 (hb : baseK ops.toList sl = some (ds', base)) (hsX : pick (es ++ []) (dsK [] ops X) ++ base = preX) (h : ∀ rest, cms ops.toList n X (preX ++ rest) = some (tX, f, args)) (hc : Mt f args c r c') (hp : p.Ok)
 (hst : ∀ a : { q : Pp // q.Ok }, eachN (TabOp ⟨Tryd.prog, n, S0, O0, w0, m0, Bs, ds⟩ ops [] base (es ++ (X, tX, r) :: []) X ops.size (ChM c p ++ extra) (ChM c' a.1 ++ extra) (ChM c' a.1 ++ extra)) nums)
 (hg : ∀ p', p'.Ok → GF ⟨Tryd.prog, n, S0, O0, w0, m0, Bs, ds⟩ fr (.leave .normal) Q ⟨((es ++ (X, tX, r) :: []).filter fun (x : Nat × Nat × PV) => (([] : List (Nat × Nat)).lookup x.1).isNone).map (·.2) ++ base, ChM c' p' ++ extra⟩)
 (hdep : ((List.range ops.size).all fun i => (depsOf ops i).all fun d => Nat.blt d i) = true := by kernel_rfl) (hXn : Nat.blt X ops.size = true := by rfl) (hnums : ((List.range ops.size).all fun i => Nat.beq i X || memN i nums) = true := by kernel_rfl)
 (hall : ((es ++ []).map (fun (x : Nat × Nat × PV) => x.1)).all (fun i => !Nat.beq i X) = true := by rfl) (hnd : nodupB (tX :: (es ++ []).map (fun (x : Nat × Nat × PV) => x.2.1)) = true := by rfl) (hbase : (base.map (fun (x : Nat × PV) => x.1)).all (fun t => !(tX :: (es ++ []).map (fun (x : Nat × Nat × PV) => x.2.1)).contains t) = true := by rfl) (hfi : ((es ++ []).map (fun (x : Nat × Nat × PV) => x.1)).all (fun i => Nat.blt i ops.size) = true := by rfl)
 (hgd : (es ++ []).all (fun (e : Nat × Nat × PV) => nrefL [1, 2, 3, 4, 5, 6] e.2.2 || (match ([] : List (Nat × Nat)).lookup e.1 with | some m => Nat.beq m X | none => false)) = true := by rfl) (hgb : base.all (fun (x : Nat × PV) => nrefL [1, 2, 3, 4, 5, 6] x.2) = true := by rfl)
 (hm0 : m0.length ≤ 1 := by omega) (hargs : args = PV.rens (fun b => [0, 1, 2, 3, 4, 5, 6].getD b 0) args := by rfl) (hra : PV.refsBs 7 args = true := by rfl) (hr : r.ren (renN [0, 1, 2, 3, 4, 5, 6] (ChM c p ++ extra).length) = r := by rfl) (hx : exB [1, 2, 3, 4, 5, 6] extra = true := by rfl) : GF ⟨Tryd.prog, n, S0, O0, w0, m0, Bs, ds⟩ fr (.code (.region id ops true)) Q ⟨sl, ChM c p ++ extra⟩ :=
 gTab (A := { q : Pp // q.Ok }) X ops.size [] (nrefL [1, 2, 3, 4, 5, 6]) es [] tX (fun _ => r) (fun a => ChM c' a.1 ++ extra) (fun a => ChM c' a.1 ++ extra) ⟨p0, p0_ok⟩ nums hb mixed hdep hXn hnums hall hnd hbase rfl hfi hgd hgb hsX
  (fun rest Q' hQ => cj (h rest) hc hp (fun p' hp' => hQ ⟨p', hp'⟩) hm0 hargs hra hr hx) hst (by rw [Nat.ble_eq]; exact Nat.le_refl _) (by rw [beq_yes]; rfl) (fun _ _ => rfl) (fun a => hg a.1 a.2)
theorem ta {K : Ctx} {ops : Array Oper} {kl : List (Nat × Nat)} {base pre : List (Nat × PV)} {fs : List (Nat × Nat × PV)} {X S i t : Nat} {m0 m1 m2 : List (List PV)} {p : PV} {ob0 : List (Bool × Bool)} (hs : pick fs (dsK kl ops i) ++ base = pre) (he : entsOf i fs = [(t, p)]) (hX : Nat.beq i X = false) (hS : Nat.beq i S = false)
 (ha : memN i (ancs ops 7 [X]) = true) (h0 : ∀ rest, E.step tab ops.toList K.n i ⟨pre ++ rest, m0⟩ = some (ob0, ⟨(t, p) :: (pre ++ rest), m0⟩)) (hT : tabB K.P tab = true := by exact tabOk) (ho0 : Obl ob0 := by exact Obl.nil) : TabOp K ops kl base fs X S m0 m1 m2 i :=
 tA hs he hX hS ha (fun rest _ hg => toO (gv hT (h0 rest) (ofO hg) ho0))
theorem c41 (c : Ch) (m : ByteArray) (hc : c.Few) : Mt 41 [.ref 0 0, .d (.str m)] c (.tup []) (nextC c m) := by
 intro p hp
 refine gjB 1 7 Tryd.func41 Tryd.ntmps41 Tryd.results41 (fun S0 O0 w0 m0 hm0 => ?_)
 repeat' first | refine st (by exact rfl) ?_ | refine bs (by exact rfl) ?_ | fail
 refine gCell 0 3 rfl rfl ?_ rfl rfl
 refine gApG (pre := p.u1) (xs := sD c.una) (post := p.u2) (ys := [.str m]) rfl rfl rfl rfl rfl (by rw [hm0]; decide) (by simp only [ChM, ChR, List.set_cons_zero, List.set_cons_succ, nrefM, nrefs_flat, Bool.or_true, Bool.true_and, Bool.and_true] <;> rfl) rfl (by simp) (row_k hp.u1 (sD_k _) hp.u2) (by simp [D.cells]) (by decide) u35 inf9 rfl (by simp [Value.cells, Value.oneCell']) (by rw [sD_len]; have := hc.una; unfold lim; simp; omega) (by rw [sD_len]; have := hc.una; unfold lim; simp; omega) (Nat.le_of_ble_eq_true rfl) (fun a b hab => ?_)
 rw [← List.length_append, sD_snoc]
 repeat' first | refine st (by exact rfl) ?_ | fail
 refine kp [(0, .ref 0 0), (1, .d (.str m))] ⟨rfl, rfl, trivial⟩ ?_
 refine (show GF _ _ _ _ ⟨_, ChM { c with una := c.una ++ [m] } { p with u1 := a, u2 := b } ++ []⟩ from ?_)
 have hp2 : Pp.Ok { p with u1 := a, u2 := b } := { hp with u1 := fun x hx => hab x (List.mem_append_left _ (List.mem_append_left _ hx)), u2 := fun x hx => hab x (List.mem_append_right _ hx) }
 have q58 := c58t { c with una := c.una ++ [m] } ⟨1, c.nxt, m⟩
 unfold Pk.d at q58
 refine tabC 9 23 [(0, 14, .ref 0 0), (1, 15, .ref 0 0), (2, 16, .ref 0 8), (3, 17, .ref 0 0), (4, 18, .ref 0 0), (5, 19, .ref 0 2), (6, 20, .d (.int .i64 c.nxt)), (7, 21, .d (.str m)), (8, 22, .d (.agg [.int .i64 1, .int .i64 c.nxt, .str m]))] [0, 1, 2, 3, 4, 5, 6, 7, 8] (by exact rfl) (by exact rfl) (fun rest => rfl) q58 hp2 (fun a => ?_) (fun p' hp' => ?_)
 · refine ⟨?_, ?_, ?_, ?_, ?_, ?_, ?_, ?_, ?_, trivial⟩
   all_goals exact ta (by exact rfl) (by exact rfl) rfl rfl (by kernel_rfl) (by exact fun _ => rfl)
 · refine st (by exact rfl) ?_
   refine kp [(0, .ref 0 0)] ⟨rfl, trivial⟩ ?_
   rw [List.append_nil]
   repeat' first | refine st (by exact rfl) ?_ | fail
   exact enj (mem' := ChM (nextC c m) p') (by exact rfl) ⟨rfl, p', hp', rfl⟩ (ChM_sub (nextC c m) p' [])
end Go.Proofs.YtoonleefemkalaaDoor
