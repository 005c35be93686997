import Derived.Test.YtklkbfpjimeaoaaGreatM27
import Derived.Test.YtklkbfpjimeaoaaGreatM24
/- Contracts of functions. Conditions: none. -/
set_option linter.unusedSimpArgs false
set_option linter.unusedVariables false
set_option maxRecDepth 20000
namespace Go.Proofs.YtklkbfpjimeaoaaGreat
open Go Go.Proofs.YtklkbfpjimeaoaaGreat.E
section
def joinT (a b : ByteArray) : ByteArray := ((⟨#[]⟩ ++ a) ++ ⟨#[32]⟩) ++ b
theorem c221 (a b : ByteArray) (ha : a.size ≤ 1000000) (hb : b.size ≤ 1000000) : Pf Tryz.prog 221 [.sl [.str a, .str b]] (.d (.str (joinT a b))) := by
 refine pfb Tryz.func221 Tryz.ntmps221 Tryz.results221 (fun S0 O0 w0 m0 hm0 => ?_)
 repeat' first | refine st (by exact rfl) ?_ | refine ct (by exact rfl) ?_ rfl | refine cf (by exact rfl) ?_ rfl | refine el (by exact rfl) rfl ?_ (by decide) | refine qu (by exact rfl) (by simp only [ByteArray.size_append, lim]; show _ ≤ _; simp only [ByteArray.size, List.size_toArray, List.length_cons, List.length_nil] at *; omega) ?_ | refine gRn 4 ?_ | fail
 exact Y1
theorem joinT_size {a b : ByteArray} (ha : a.size ≤ 1000000) (hb : b.size ≤ 1000000) : (joinT a b).size ≤ 140737488355328 := by
 unfold joinT
 simp only [ByteArray.size_append]
 simp only [ByteArray.size, List.size_toArray, List.length_cons, List.length_nil] at *
 omega
def ruleT : List (ByteArray × ByteArray) → ByteArray → ByteArray
 | [], _ => ⟨#[]⟩
 | (k, v) :: r, t => if k = t then v else ruleT r t
theorem ruleT_ls : ∀ (l : List (ByteArray × ByteArray)) (t : ByteArray), mgetQ (.str t) (.str ⟨#[]⟩) (l.map fun x => (.str x.1, .str x.2)) = .str (ruleT l t)
 | [], t => rfl
 | (k, v) :: r, t => by
  rw [List.map_cons, mgetQ, ruleT]
  by_cases h : k = t
  · rw [if_pos h, show D.keyQ (.str k) (.str t) = true from by subst h; simp [D.keyQ, D.leafQ]]
  · rw [if_neg h, show D.keyQ (.str k) (.str t) = false from by simp [D.keyQ, D.leafQ, h]]
    exact ruleT_ls r t
theorem ruleT_lsK (l : List (ByteArray × ByteArray)) (t : ByteArray) : lsK false (.str t) (.str ⟨#[]⟩) (l.map fun x => (.str x.1, .str x.2)) = some (.d (.str (ruleT l t))) := by
 unfold lsK
 rw [ruleT_ls]
set_option maxHeartbeats 4000000 in
theorem c146u0 (num : Int) (ks : List D) (a : ByteArray) (ha : a.size ≤ 1000000) : Pf Tryz.prog 146 [.agg [.int .i64 5, .str ⟨#[45]⟩, .int .i64 num, .sl ks], .sl [.str a]] (.d (.str (ruleT [(⟨#[105, 110, 116]⟩, ⟨#[105, 110, 116]⟩)] a))) := by
 refine pfb Tryz.func146 Tryz.ntmps146 Tryz.results146 (fun S0 O0 w0 m0 hm0 => ?_)
 repeat' first | refine st (by exact rfl) ?_ | refine ct (by exact rfl) ?_ rfl | refine cf (by exact rfl) ?_ rfl | refine el (by exact rfl) rfl ?_ (by decide) | fail
 refine Z168 ?_
 iterate 3 refine ov (hc := ?_)
 refine Z169 ?_;refine Z36 ?_;refine Z3 ?_
 refine ols C9 (hr := ruleT_lsK [(⟨#[105, 110, 116]⟩, ⟨#[105, 110, 116]⟩)] a) (hk := Nat.ble_eq_true_of_le (Nat.le_trans ha (by decide))) (hc := ?_)
 refine Z138 ?_
 repeat' first | refine st (by exact rfl) ?_ | refine ct (by exact rfl) ?_ rfl | refine cf (by exact rfl) ?_ rfl | refine el (by exact rfl) rfl ?_ (by decide) | fail
 exact Y1
set_option maxHeartbeats 4000000 in
theorem c146u1 (num : Int) (ks : List D) (a : ByteArray) (ha : a.size ≤ 1000000) : Pf Tryz.prog 146 [.agg [.int .i64 5, .str ⟨#[33]⟩, .int .i64 num, .sl ks], .sl [.str a]] (.d (.str (ruleT [(⟨#[98, 111, 111, 108]⟩, ⟨#[98, 111, 111, 108]⟩)] a))) := by
 refine pfb Tryz.func146 Tryz.ntmps146 Tryz.results146 (fun S0 O0 w0 m0 hm0 => ?_)
 repeat' first | refine st (by exact rfl) ?_ | refine ct (by exact rfl) ?_ rfl | refine cf (by exact rfl) ?_ rfl | refine el (by exact rfl) rfl ?_ (by decide) | fail
 refine Z168 ?_
 iterate 3 refine ov (hc := ?_)
 refine Z169 ?_;refine Z36 ?_;refine Z3 ?_
 refine ols C9 (hr := ruleT_lsK [(⟨#[98, 111, 111, 108]⟩, ⟨#[98, 111, 111, 108]⟩)] a) (hk := Nat.ble_eq_true_of_le (Nat.le_trans ha (by decide))) (hc := ?_)
 refine Z138 ?_
 repeat' first | refine st (by exact rfl) ?_ | refine ct (by exact rfl) ?_ rfl | refine cf (by exact rfl) ?_ rfl | refine el (by exact rfl) rfl ?_ (by decide) | fail
 exact Y1
set_option maxHeartbeats 4000000 in
theorem c146b0 (num : Int) (ks : List D) (a b : ByteArray) (ha : a.size ≤ 1000000) (hb : b.size ≤ 1000000) : Pf Tryz.prog 146 [.agg [.int .i64 6, .str ⟨#[43]⟩, .int .i64 num, .sl ks], .sl [.str a, .str b]] (.d (.str (ruleT [(⟨#[105, 110, 116, 32, 105, 110, 116]⟩, ⟨#[105, 110, 116]⟩)] (joinT a b)))) := by
 refine pfb Tryz.func146 Tryz.ntmps146 Tryz.results146 (fun S0 O0 w0 m0 hm0 => ?_)
 repeat' first | refine st (by exact rfl) ?_ | refine ct (by exact rfl) ?_ rfl | refine cf (by exact rfl) ?_ rfl | refine el (by exact rfl) rfl ?_ (by decide) | fail
 refine Z168 ?_
 iterate 3 refine ov (hc := ?_)
 refine Z188 ?_;refine Z40 ?_;refine Z138 ?_
 repeat' first | refine st (by exact rfl) ?_ | refine ct (by exact rfl) ?_ rfl | refine cf (by exact rfl) ?_ rfl | refine el (by exact rfl) rfl ?_ (by decide) | fail
 exact Y1
set_option maxHeartbeats 4000000 in
theorem c146b1 (num : Int) (ks : List D) (a b : ByteArray) (ha : a.size ≤ 1000000) (hb : b.size ≤ 1000000) : Pf Tryz.prog 146 [.agg [.int .i64 6, .str ⟨#[45]⟩, .int .i64 num, .sl ks], .sl [.str a, .str b]] (.d (.str (ruleT [(⟨#[105, 110, 116, 32, 105, 110, 116]⟩, ⟨#[105, 110, 116]⟩)] (joinT a b)))) := by
 refine pfb Tryz.func146 Tryz.ntmps146 Tryz.results146 (fun S0 O0 w0 m0 hm0 => ?_)
 repeat' first | refine st (by exact rfl) ?_ | refine ct (by exact rfl) ?_ rfl | refine cf (by exact rfl) ?_ rfl | refine el (by exact rfl) rfl ?_ (by decide) | fail
 refine Z168 ?_
 iterate 3 refine ov (hc := ?_)
 refine Z188 ?_;refine Z40 ?_;refine Z138 ?_
 repeat' first | refine st (by exact rfl) ?_ | refine ct (by exact rfl) ?_ rfl | refine cf (by exact rfl) ?_ rfl | refine el (by exact rfl) rfl ?_ (by decide) | fail
 exact Y1
set_option maxHeartbeats 4000000 in
theorem c146b2 (num : Int) (ks : List D) (a b : ByteArray) (ha : a.size ≤ 1000000) (hb : b.size ≤ 1000000) : Pf Tryz.prog 146 [.agg [.int .i64 6, .str ⟨#[42]⟩, .int .i64 num, .sl ks], .sl [.str a, .str b]] (.d (.str (ruleT [(⟨#[105, 110, 116, 32, 105, 110, 116]⟩, ⟨#[105, 110, 116]⟩)] (joinT a b)))) := by
 refine pfb Tryz.func146 Tryz.ntmps146 Tryz.results146 (fun S0 O0 w0 m0 hm0 => ?_)
 repeat' first | refine st (by exact rfl) ?_ | refine ct (by exact rfl) ?_ rfl | refine cf (by exact rfl) ?_ rfl | refine el (by exact rfl) rfl ?_ (by decide) | fail
 refine Z168 ?_
 iterate 3 refine ov (hc := ?_)
 refine Z188 ?_;refine Z40 ?_;refine Z138 ?_
 repeat' first | refine st (by exact rfl) ?_ | refine ct (by exact rfl) ?_ rfl | refine cf (by exact rfl) ?_ rfl | refine el (by exact rfl) rfl ?_ (by decide) | fail
 exact Y1
set_option maxHeartbeats 4000000 in
theorem c146b3 (num : Int) (ks : List D) (a b : ByteArray) (ha : a.size ≤ 1000000) (hb : b.size ≤ 1000000) : Pf Tryz.prog 146 [.agg [.int .i64 6, .str ⟨#[47]⟩, .int .i64 num, .sl ks], .sl [.str a, .str b]] (.d (.str (ruleT [(⟨#[105, 110, 116, 32, 105, 110, 116]⟩, ⟨#[105, 110, 116]⟩)] (joinT a b)))) := by
 refine pfb Tryz.func146 Tryz.ntmps146 Tryz.results146 (fun S0 O0 w0 m0 hm0 => ?_)
 repeat' first | refine st (by exact rfl) ?_ | refine ct (by exact rfl) ?_ rfl | refine cf (by exact rfl) ?_ rfl | refine el (by exact rfl) rfl ?_ (by decide) | fail
 refine Z168 ?_
 iterate 3 refine ov (hc := ?_)
 refine Z188 ?_;refine Z40 ?_;refine Z138 ?_
 repeat' first | refine st (by exact rfl) ?_ | refine ct (by exact rfl) ?_ rfl | refine cf (by exact rfl) ?_ rfl | refine el (by exact rfl) rfl ?_ (by decide) | fail
 exact Y1
set_option maxHeartbeats 4000000 in
theorem c146b4 (num : Int) (ks : List D) (a b : ByteArray) (ha : a.size ≤ 1000000) (hb : b.size ≤ 1000000) : Pf Tryz.prog 146 [.agg [.int .i64 6, .str ⟨#[37]⟩, .int .i64 num, .sl ks], .sl [.str a, .str b]] (.d (.str (ruleT [(⟨#[105, 110, 116, 32, 105, 110, 116]⟩, ⟨#[105, 110, 116]⟩)] (joinT a b)))) := by
 refine pfb Tryz.func146 Tryz.ntmps146 Tryz.results146 (fun S0 O0 w0 m0 hm0 => ?_)
 repeat' first | refine st (by exact rfl) ?_ | refine ct (by exact rfl) ?_ rfl | refine cf (by exact rfl) ?_ rfl | refine el (by exact rfl) rfl ?_ (by decide) | fail
 refine Z168 ?_
 iterate 3 refine ov (hc := ?_)
 refine Z188 ?_;refine Z40 ?_;refine Z138 ?_
 repeat' first | refine st (by exact rfl) ?_ | refine ct (by exact rfl) ?_ rfl | refine cf (by exact rfl) ?_ rfl | refine el (by exact rfl) rfl ?_ (by decide) | fail
 exact Y1
set_option maxHeartbeats 4000000 in
theorem c146b5 (num : Int) (ks : List D) (a b : ByteArray) (ha : a.size ≤ 1000000) (hb : b.size ≤ 1000000) : Pf Tryz.prog 146 [.agg [.int .i64 6, .str ⟨#[61, 61]⟩, .int .i64 num, .sl ks], .sl [.str a, .str b]] (.d (.str (ruleT [(⟨#[105, 110, 116, 32, 105, 110, 116]⟩, ⟨#[98, 111, 111, 108]⟩), (⟨#[98, 111, 111, 108, 32, 98, 111, 111, 108]⟩, ⟨#[98, 111, 111, 108]⟩)] (joinT a b)))) := by
 refine pfb Tryz.func146 Tryz.ntmps146 Tryz.results146 (fun S0 O0 w0 m0 hm0 => ?_)
 repeat' first | refine st (by exact rfl) ?_ | refine ct (by exact rfl) ?_ rfl | refine cf (by exact rfl) ?_ rfl | refine el (by exact rfl) rfl ?_ (by decide) | fail
 refine Z168 ?_
 iterate 3 refine ov (hc := ?_)
 refine Z188 ?_
 refine ols C9 (hr := ruleT_lsK [(⟨#[105, 110, 116, 32, 105, 110, 116]⟩, ⟨#[98, 111, 111, 108]⟩), (⟨#[98, 111, 111, 108, 32, 98, 111, 111, 108]⟩, ⟨#[98, 111, 111, 108]⟩)] (joinT a b)) (hk := Nat.ble_eq_true_of_le (joinT_size ha hb)) (hc := ?_)
 refine Z138 ?_
 repeat' first | refine st (by exact rfl) ?_ | refine ct (by exact rfl) ?_ rfl | refine cf (by exact rfl) ?_ rfl | refine el (by exact rfl) rfl ?_ (by decide) | fail
 exact Y1
set_option maxHeartbeats 4000000 in
theorem c146b6 (num : Int) (ks : List D) (a b : ByteArray) (ha : a.size ≤ 1000000) (hb : b.size ≤ 1000000) : Pf Tryz.prog 146 [.agg [.int .i64 6, .str ⟨#[33, 61]⟩, .int .i64 num, .sl ks], .sl [.str a, .str b]] (.d (.str (ruleT [(⟨#[105, 110, 116, 32, 105, 110, 116]⟩, ⟨#[98, 111, 111, 108]⟩), (⟨#[98, 111, 111, 108, 32, 98, 111, 111, 108]⟩, ⟨#[98, 111, 111, 108]⟩)] (joinT a b)))) := by
 refine pfb Tryz.func146 Tryz.ntmps146 Tryz.results146 (fun S0 O0 w0 m0 hm0 => ?_)
 repeat' first | refine st (by exact rfl) ?_ | refine ct (by exact rfl) ?_ rfl | refine cf (by exact rfl) ?_ rfl | refine el (by exact rfl) rfl ?_ (by decide) | fail
 refine Z168 ?_
 iterate 3 refine ov (hc := ?_)
 refine Z188 ?_
 refine ols C9 (hr := ruleT_lsK [(⟨#[105, 110, 116, 32, 105, 110, 116]⟩, ⟨#[98, 111, 111, 108]⟩), (⟨#[98, 111, 111, 108, 32, 98, 111, 111, 108]⟩, ⟨#[98, 111, 111, 108]⟩)] (joinT a b)) (hk := Nat.ble_eq_true_of_le (joinT_size ha hb)) (hc := ?_)
 refine Z138 ?_
 repeat' first | refine st (by exact rfl) ?_ | refine ct (by exact rfl) ?_ rfl | refine cf (by exact rfl) ?_ rfl | refine el (by exact rfl) rfl ?_ (by decide) | fail
 exact Y1
set_option maxHeartbeats 4000000 in
theorem c146b7 (num : Int) (ks : List D) (a b : ByteArray) (ha : a.size ≤ 1000000) (hb : b.size ≤ 1000000) : Pf Tryz.prog 146 [.agg [.int .i64 6, .str ⟨#[60]⟩, .int .i64 num, .sl ks], .sl [.str a, .str b]] (.d (.str (ruleT [(⟨#[105, 110, 116, 32, 105, 110, 116]⟩, ⟨#[98, 111, 111, 108]⟩)] (joinT a b)))) := by
 refine pfb Tryz.func146 Tryz.ntmps146 Tryz.results146 (fun S0 O0 w0 m0 hm0 => ?_)
 repeat' first | refine st (by exact rfl) ?_ | refine ct (by exact rfl) ?_ rfl | refine cf (by exact rfl) ?_ rfl | refine el (by exact rfl) rfl ?_ (by decide) | fail
 refine Z168 ?_
 iterate 3 refine ov (hc := ?_)
 refine Z188 ?_;refine Z49 ?_;refine Z138 ?_
 repeat' first | refine st (by exact rfl) ?_ | refine ct (by exact rfl) ?_ rfl | refine cf (by exact rfl) ?_ rfl | refine el (by exact rfl) rfl ?_ (by decide) | fail
 exact Y1
set_option maxHeartbeats 4000000 in
theorem c146b8 (num : Int) (ks : List D) (a b : ByteArray) (ha : a.size ≤ 1000000) (hb : b.size ≤ 1000000) : Pf Tryz.prog 146 [.agg [.int .i64 6, .str ⟨#[60, 61]⟩, .int .i64 num, .sl ks], .sl [.str a, .str b]] (.d (.str (ruleT [(⟨#[105, 110, 116, 32, 105, 110, 116]⟩, ⟨#[98, 111, 111, 108]⟩)] (joinT a b)))) := by
 refine pfb Tryz.func146 Tryz.ntmps146 Tryz.results146 (fun S0 O0 w0 m0 hm0 => ?_)
 repeat' first | refine st (by exact rfl) ?_ | refine ct (by exact rfl) ?_ rfl | refine cf (by exact rfl) ?_ rfl | refine el (by exact rfl) rfl ?_ (by decide) | fail
 refine Z168 ?_
 iterate 3 refine ov (hc := ?_)
 refine Z188 ?_;refine Z49 ?_;refine Z138 ?_
 repeat' first | refine st (by exact rfl) ?_ | refine ct (by exact rfl) ?_ rfl | refine cf (by exact rfl) ?_ rfl | refine el (by exact rfl) rfl ?_ (by decide) | fail
 exact Y1
set_option maxHeartbeats 4000000 in
theorem c146b9 (num : Int) (ks : List D) (a b : ByteArray) (ha : a.size ≤ 1000000) (hb : b.size ≤ 1000000) : Pf Tryz.prog 146 [.agg [.int .i64 6, .str ⟨#[62]⟩, .int .i64 num, .sl ks], .sl [.str a, .str b]] (.d (.str (ruleT [(⟨#[105, 110, 116, 32, 105, 110, 116]⟩, ⟨#[98, 111, 111, 108]⟩)] (joinT a b)))) := by
 refine pfb Tryz.func146 Tryz.ntmps146 Tryz.results146 (fun S0 O0 w0 m0 hm0 => ?_)
 repeat' first | refine st (by exact rfl) ?_ | refine ct (by exact rfl) ?_ rfl | refine cf (by exact rfl) ?_ rfl | refine el (by exact rfl) rfl ?_ (by decide) | fail
 refine Z168 ?_
 iterate 3 refine ov (hc := ?_)
 refine Z188 ?_;refine Z49 ?_;refine Z138 ?_
 repeat' first | refine st (by exact rfl) ?_ | refine ct (by exact rfl) ?_ rfl | refine cf (by exact rfl) ?_ rfl | refine el (by exact rfl) rfl ?_ (by decide) | fail
 exact Y1
set_option maxHeartbeats 4000000 in
theorem c146b10 (num : Int) (ks : List D) (a b : ByteArray) (ha : a.size ≤ 1000000) (hb : b.size ≤ 1000000) : Pf Tryz.prog 146 [.agg [.int .i64 6, .str ⟨#[62, 61]⟩, .int .i64 num, .sl ks], .sl [.str a, .str b]] (.d (.str (ruleT [(⟨#[105, 110, 116, 32, 105, 110, 116]⟩, ⟨#[98, 111, 111, 108]⟩)] (joinT a b)))) := by
 refine pfb Tryz.func146 Tryz.ntmps146 Tryz.results146 (fun S0 O0 w0 m0 hm0 => ?_)
 repeat' first | refine st (by exact rfl) ?_ | refine ct (by exact rfl) ?_ rfl | refine cf (by exact rfl) ?_ rfl | refine el (by exact rfl) rfl ?_ (by decide) | fail
 refine Z168 ?_
 iterate 3 refine ov (hc := ?_)
 refine Z188 ?_;refine Z49 ?_;refine Z138 ?_
 repeat' first | refine st (by exact rfl) ?_ | refine ct (by exact rfl) ?_ rfl | refine cf (by exact rfl) ?_ rfl | refine el (by exact rfl) rfl ?_ (by decide) | fail
 exact Y1
set_option maxHeartbeats 4000000 in
theorem c146b11 (num : Int) (ks : List D) (a b : ByteArray) (ha : a.size ≤ 1000000) (hb : b.size ≤ 1000000) : Pf Tryz.prog 146 [.agg [.int .i64 6, .str ⟨#[38, 38]⟩, .int .i64 num, .sl ks], .sl [.str a, .str b]] (.d (.str (ruleT [(⟨#[98, 111, 111, 108, 32, 98, 111, 111, 108]⟩, ⟨#[98, 111, 111, 108]⟩)] (joinT a b)))) := by
 refine pfb Tryz.func146 Tryz.ntmps146 Tryz.results146 (fun S0 O0 w0 m0 hm0 => ?_)
 repeat' first | refine st (by exact rfl) ?_ | refine ct (by exact rfl) ?_ rfl | refine cf (by exact rfl) ?_ rfl | refine el (by exact rfl) rfl ?_ (by decide) | fail
 refine Z168 ?_
 iterate 3 refine ov (hc := ?_)
 refine Z188 ?_
 refine ols C9 (hr := ruleT_lsK [(⟨#[98, 111, 111, 108, 32, 98, 111, 111, 108]⟩, ⟨#[98, 111, 111, 108]⟩)] (joinT a b)) (hk := Nat.ble_eq_true_of_le (joinT_size ha hb)) (hc := ?_)
 refine Z138 ?_
 repeat' first | refine st (by exact rfl) ?_ | refine ct (by exact rfl) ?_ rfl | refine cf (by exact rfl) ?_ rfl | refine el (by exact rfl) rfl ?_ (by decide) | fail
 exact Y1
set_option maxHeartbeats 4000000 in
theorem c146b12 (num : Int) (ks : List D) (a b : ByteArray) (ha : a.size ≤ 1000000) (hb : b.size ≤ 1000000) : Pf Tryz.prog 146 [.agg [.int .i64 6, .str ⟨#[124, 124]⟩, .int .i64 num, .sl ks], .sl [.str a, .str b]] (.d (.str (ruleT [(⟨#[98, 111, 111, 108, 32, 98, 111, 111, 108]⟩, ⟨#[98, 111, 111, 108]⟩)] (joinT a b)))) := by
 refine pfb Tryz.func146 Tryz.ntmps146 Tryz.results146 (fun S0 O0 w0 m0 hm0 => ?_)
 repeat' first | refine st (by exact rfl) ?_ | refine ct (by exact rfl) ?_ rfl | refine cf (by exact rfl) ?_ rfl | refine el (by exact rfl) rfl ?_ (by decide) | fail
 refine Z168 ?_
 iterate 3 refine ov (hc := ?_)
 refine Z188 ?_
 refine ols C9 (hr := ruleT_lsK [(⟨#[98, 111, 111, 108, 32, 98, 111, 111, 108]⟩, ⟨#[98, 111, 111, 108]⟩)] (joinT a b)) (hk := Nat.ble_eq_true_of_le (joinT_size ha hb)) (hc := ?_)
 refine Z138 ?_
 repeat' first | refine st (by exact rfl) ?_ | refine ct (by exact rfl) ?_ rfl | refine cf (by exact rfl) ?_ rfl | refine el (by exact rfl) rfl ?_ (by decide) | fail
 exact Y1
end
section
set_option maxHeartbeats 4000000 in
theorem c146_7 (nm : ByteArray) (num : Int) (ks : List D) (a b : ByteArray) : Pf Tryz.prog 146 [.agg [.int .i64 7, .str nm, .int .i64 num, .sl ks], .sl [.str a, .str b]] (.d (.str (whenS (allB [a, b] sInt) sRange))) := by
 refine pfb Tryz.func146 Tryz.ntmps146 Tryz.results146 (fun S0 O0 w0 m0 hm0 => ?_)
 repeat' first | refine st (by exact rfl) ?_ | refine ct (by exact rfl) ?_ rfl | refine cf (by exact rfl) ?_ rfl | refine el (by exact rfl) rfl ?_ (by decide) | refine elg (.str a) (by exact rfl) (fun _ => ⟨by decide, by rfl, by rfl⟩) ?_ | refine elg (.str b) (by exact rfl) (fun _ => ⟨by decide, by rfl, by rfl⟩) ?_ | refine cl (by exact rfl) (c222 [a, b] sInt (by simp)) ?_ | refine cl (by exact rfl) (c219 _ _) ?_ | fail
 exact Y1
set_option maxHeartbeats 4000000 in
theorem c146_8 (nm : ByteArray) (num : Int) (ks : List D) (a b : ByteArray) : Pf Tryz.prog 146 [.agg [.int .i64 8, .str nm, .int .i64 num, .sl ks], .sl [.str a, .str b]] (.d (.str (whenS (decide (a = sRange) && decide (b = sInt)) sRange))) := by
 refine pfb Tryz.func146 Tryz.ntmps146 Tryz.results146 (fun S0 O0 w0 m0 hm0 => ?_)
 repeat' first | refine st (by exact rfl) ?_ | refine ct (by exact rfl) ?_ rfl | refine cf (by exact rfl) ?_ rfl | refine el (by exact rfl) rfl ?_ (by decide) | refine elg (.str a) (by exact rfl) (fun _ => ⟨by decide, by rfl, by rfl⟩) ?_ | refine elg (.str b) (by exact rfl) (fun _ => ⟨by decide, by rfl, by rfl⟩) ?_ | refine cl (by exact rfl) (c219 _ _) ?_ | fail
 exact Y1
set_option maxHeartbeats 4000000 in
theorem c146_9 (nm : ByteArray) (num : Int) (ks : List D) (a b : ByteArray) : Pf Tryz.prog 146 [.agg [.int .i64 9, .str nm, .int .i64 num, .sl ks], .sl [.str a, .str b]] (.d (.str (whenS (decide (a = sRange) && decide (b = sInt)) sRange))) := by
 refine pfb Tryz.func146 Tryz.ntmps146 Tryz.results146 (fun S0 O0 w0 m0 hm0 => ?_)
 repeat' first | refine st (by exact rfl) ?_ | refine ct (by exact rfl) ?_ rfl | refine cf (by exact rfl) ?_ rfl | refine el (by exact rfl) rfl ?_ (by decide) | refine elg (.str a) (by exact rfl) (fun _ => ⟨by decide, by rfl, by rfl⟩) ?_ | refine elg (.str b) (by exact rfl) (fun _ => ⟨by decide, by rfl, by rfl⟩) ?_ | refine cl (by exact rfl) (c219 _ _) ?_ | fail
 exact Y1
set_option maxHeartbeats 4000000 in
theorem c146_11 (nm : ByteArray) (num : Int) (ks : List D) (a : ByteArray) (r : List ByteArray) (hl : r.length ≤ 1000000) : Pf Tryz.prog 146 [.agg [.int .i64 11, .str nm, .int .i64 num, .sl ks], .sl (.str a :: r.map .str)] (.d (.str (whenS (isDomB a && allB r sInt) a))) := by
 refine pfb Tryz.func146 Tryz.ntmps146 Tryz.results146 (fun S0 O0 w0 m0 hm0 => ?_)
 repeat' first | refine st (by exact rfl) ?_ | refine ct (by exact rfl) ?_ rfl | refine cf (by exact rfl) ?_ rfl | refine el (by exact rfl) rfl ?_ (by decide) | refine elg (.str a) (by exact rfl) (fun _ => ⟨by decide, by rfl, by rfl⟩) ?_ | fail
 refine Z27 ?_
 iterate 2 refine ov (hc := ?_)
 refine Z36 ?_;refine Z3 ?_
 refine oc (hcl := c141 a) (hc := ?_)
 refine Z129 ?_
 refine oqg (hcc := fun _ => ?_) (hc := ?_)
 · refine ⟨⟨by decide, by simp only [List.length_cons, List.length_map]; omega⟩, fun x hx => ?_⟩
   simp only [List.mem_cons, List.mem_map] at hx
   rcases hx with rfl | ⟨y, _, rfl⟩ <;> rfl
 refine ocg (hcl := fun _ => c222 r sInt (by omega)) (hc := ?_)
 refine Z129 ?_;refine Z36 ?_;refine Z3 ?_;refine Z90 ?_;refine Z138 ?_
 repeat' first | refine st (by exact rfl) ?_ | refine ct (by exact rfl) ?_ rfl | refine cf (by exact rfl) ?_ rfl | refine el (by exact rfl) rfl ?_ (by decide) | refine elg (.str a) (by exact rfl) (fun _ => ⟨by decide, by rfl, by rfl⟩) ?_ | fail
 exact Y1
set_option maxHeartbeats 4000000 in
theorem c146_14 (nm : ByteArray) (num : Int) (ks : List D) (a : ByteArray) : Pf Tryz.prog 146 [.agg [.int .i64 14, .str nm, .int .i64 num, .sl ks], .sl [.str a]] (.d (.str (fieldT nm a))) := by
 refine pfb Tryz.func146 Tryz.ntmps146 Tryz.results146 (fun S0 O0 w0 m0 hm0 => ?_)
 repeat' first | refine st (by exact rfl) ?_ | refine ct (by exact rfl) ?_ rfl | refine cf (by exact rfl) ?_ rfl | refine el (by exact rfl) rfl ?_ (by decide) | refine elg (.str a) (by exact rfl) (fun _ => ⟨by decide, by rfl, by rfl⟩) ?_ | fail
 refine Z27 ?_
 iterate 3 refine ov (hc := ?_)
 refine Z36 ?_;refine Z3 ?_
 refine oc (hcl := c223 nm a) (hc := ?_)
 refine Z138 ?_
 repeat' first | refine st (by exact rfl) ?_ | refine ct (by exact rfl) ?_ rfl | refine cf (by exact rfl) ?_ rfl | refine el (by exact rfl) rfl ?_ (by decide) | refine elg (.str a) (by exact rfl) (fun _ => ⟨by decide, by rfl, by rfl⟩) ?_ | fail
 exact Y1
set_option maxHeartbeats 4000000 in
theorem c146_18 (nm : ByteArray) (num : Int) (ks : List D) (a : ByteArray) : Pf Tryz.prog 146 [.agg [.int .i64 18, .str nm, .int .i64 num, .sl ks], .sl [.str a]] (.d (.str (whenS ((decide (a = sRange) || decide (a = sDom1)) || isArrB a) sInt))) := by
 refine pfb Tryz.func146 Tryz.ntmps146 Tryz.results146 (fun S0 O0 w0 m0 hm0 => ?_)
 repeat' first | refine st (by exact rfl) ?_ | refine ct (by exact rfl) ?_ rfl | refine cf (by exact rfl) ?_ rfl | refine el (by exact rfl) rfl ?_ (by decide) | refine elg (.str a) (by exact rfl) (fun _ => ⟨by decide, by rfl, by rfl⟩) ?_ | refine clg (by exact rfl) (fun _ => c143 a) ?_ | refine cl (by exact rfl) (c219 _ _) ?_ | fail
 exact Y1
set_option maxHeartbeats 4000000 in
theorem c146_19 (nm : ByteArray) (num : Int) (ks : List D) (a b c : ByteArray) : Pf Tryz.prog 146 [.agg [.int .i64 19, .str nm, .int .i64 num, .sl ks], .sl [.str a, .str b, .str c]] (.d (.str (whenS ((decide (a = sBool) && decide (b = c)) && (((decide (b = sInt) || decide (b = sBool)) || decide (b = sRange)) || isDomB b)) b))) := by
 refine pfb Tryz.func146 Tryz.ntmps146 Tryz.results146 (fun S0 O0 w0 m0 hm0 => ?_)
 repeat' first | refine st (by exact rfl) ?_ | refine ct (by exact rfl) ?_ rfl | refine cf (by exact rfl) ?_ rfl | refine el (by exact rfl) rfl ?_ (by decide) | refine elg (.str a) (by exact rfl) (fun _ => ⟨by decide, by rfl, by rfl⟩) ?_ | refine elg (.str b) (by exact rfl) (fun _ => ⟨by decide, by rfl, by rfl⟩) ?_ | refine elg (.str c) (by exact rfl) (fun _ => ⟨by decide, by rfl, by rfl⟩) ?_ | refine clg (by exact rfl) (fun _ => c141 b) ?_ | refine cl (by exact rfl) (c219 _ _) ?_ | fail
 refine Z27 ?_
 iterate 2 refine ov (hc := ?_)
 refine Z36 ?_
 iterate 4 refine ov (hc := ?_)
 refine Z47 ?_
 iterate 2 refine ov (hc := ?_)
 refine oig (.str c) (hd := fun _ => ⟨by decide, by rfl, by rfl⟩) (hc := ?_)
 iterate 7 refine ov (hc := ?_)
 refine Z36 ?_;refine Z3 ?_;refine Z90 ?_;refine Z138 ?_
 repeat' first | refine st (by exact rfl) ?_ | refine ct (by exact rfl) ?_ rfl | refine cf (by exact rfl) ?_ rfl | refine el (by exact rfl) rfl ?_ (by decide) | refine elg (.str a) (by exact rfl) (fun _ => ⟨by decide, by rfl, by rfl⟩) ?_ | refine elg (.str b) (by exact rfl) (fun _ => ⟨by decide, by rfl, by rfl⟩) ?_ | refine elg (.str c) (by exact rfl) (fun _ => ⟨by decide, by rfl, by rfl⟩) ?_ | fail
 exact Y1
set_option maxHeartbeats 4000000 in
theorem c146_10a (nm : ByteArray) (num : Int) (ks : List D) (a : ByteArray) : Pf Tryz.prog 146 [.agg [.int .i64 10, .str nm, .int .i64 num, .sl ks], .sl [.str a]] (.d (.str (whenS (allB [a] sRange) sDom1))) := by
 refine pfb Tryz.func146 Tryz.ntmps146 Tryz.results146 (fun S0 O0 w0 m0 hm0 => ?_)
 repeat' first | refine st (by exact rfl) ?_ | refine ct (by exact rfl) ?_ rfl | refine cf (by exact rfl) ?_ rfl | refine el (by exact rfl) rfl ?_ (by decide) | refine elg (.str a) (by exact rfl) (fun _ => ⟨by decide, by rfl, by rfl⟩) ?_ | fail
 refine Z27 ?_
 iterate 2 refine ov (hc := ?_)
 refine oc (hcl := c222 [a] sRange (by simp)) (hc := ?_)
 iterate 3 refine ov (hc := ?_)
 refine oix (.str sDom1) u227 u9 (h0 := by simp) (h1 := by simp) (hc := ?_)
 refine Z90 ?_;refine Z138 ?_
 repeat' first | refine st (by exact rfl) ?_ | refine ct (by exact rfl) ?_ rfl | refine cf (by exact rfl) ?_ rfl | refine el (by exact rfl) rfl ?_ (by decide) | refine elg (.str a) (by exact rfl) (fun _ => ⟨by decide, by rfl, by rfl⟩) ?_ | fail
 exact Y1
set_option maxHeartbeats 4000000 in
theorem c146_10b (nm : ByteArray) (num : Int) (ks : List D) (a b : ByteArray) : Pf Tryz.prog 146 [.agg [.int .i64 10, .str nm, .int .i64 num, .sl ks], .sl [.str a, .str b]] (.d (.str (whenS (allB [a, b] sRange) sDom2))) := by
 refine pfb Tryz.func146 Tryz.ntmps146 Tryz.results146 (fun S0 O0 w0 m0 hm0 => ?_)
 repeat' first | refine st (by exact rfl) ?_ | refine ct (by exact rfl) ?_ rfl | refine cf (by exact rfl) ?_ rfl | refine el (by exact rfl) rfl ?_ (by decide) | refine elg (.str a) (by exact rfl) (fun _ => ⟨by decide, by rfl, by rfl⟩) ?_ | refine elg (.str b) (by exact rfl) (fun _ => ⟨by decide, by rfl, by rfl⟩) ?_ | fail
 refine Z27 ?_
 iterate 2 refine ov (hc := ?_)
 refine oc (hcl := c222 [a, b] sRange (by simp)) (hc := ?_)
 iterate 3 refine ov (hc := ?_)
 refine oix (.str sDom2) u227 u9 (h0 := by simp) (h1 := by simp) (hc := ?_)
 refine Z90 ?_;refine Z138 ?_
 repeat' first | refine st (by exact rfl) ?_ | refine ct (by exact rfl) ?_ rfl | refine cf (by exact rfl) ?_ rfl | refine el (by exact rfl) rfl ?_ (by decide) | refine elg (.str a) (by exact rfl) (fun _ => ⟨by decide, by rfl, by rfl⟩) ?_ | refine elg (.str b) (by exact rfl) (fun _ => ⟨by decide, by rfl, by rfl⟩) ?_ | fail
 exact Y1
set_option maxHeartbeats 4000000 in
theorem c146_12a (nm : ByteArray) (num : Int) (ks : List D) (a b : ByteArray) : Pf Tryz.prog 146 [.agg [.int .i64 12, .str nm, .int .i64 num, .sl ks], .sl [.str a, .str b]] (.d (.str (whenS (decide (a = sArr1) && allB [b] sInt) sInt))) := by
 refine pfb Tryz.func146 Tryz.ntmps146 Tryz.results146 (fun S0 O0 w0 m0 hm0 => ?_)
 repeat' first | refine st (by exact rfl) ?_ | refine ct (by exact rfl) ?_ rfl | refine cf (by exact rfl) ?_ rfl | refine el (by exact rfl) rfl ?_ (by decide) | refine elg (.str a) (by exact rfl) (fun _ => ⟨by decide, by rfl, by rfl⟩) ?_ | refine elg (.str b) (by exact rfl) (fun _ => ⟨by decide, by rfl, by rfl⟩) ?_ | fail
 refine Z27 ?_
 iterate 2 refine ov (hc := ?_)
 refine Z36 ?_
 iterate 4 refine ov (hc := ?_)
 refine oix (.str sArr1) u228 u9 (h0 := by simp) (h1 := by simp) (hc := ?_)
 iterate 3 refine ov (hc := ?_)
 refine oqg (hcc := fun _ => ?_) (hc := ?_)
 · refine ⟨⟨by decide, by simp⟩, fun x hx => ?_⟩
   simp only [List.mem_cons, List.not_mem_nil, or_false] at hx
   rcases hx with rfl | rfl <;> rfl
 refine ocg (hcl := fun _ => c222 [b] sInt (by simp)) (hc := ?_)
 refine Z3 ?_;refine Z90 ?_;refine Z138 ?_
 repeat' first | refine st (by exact rfl) ?_ | refine ct (by exact rfl) ?_ rfl | refine cf (by exact rfl) ?_ rfl | refine el (by exact rfl) rfl ?_ (by decide) | refine elg (.str a) (by exact rfl) (fun _ => ⟨by decide, by rfl, by rfl⟩) ?_ | refine elg (.str b) (by exact rfl) (fun _ => ⟨by decide, by rfl, by rfl⟩) ?_ | fail
 exact Y1
set_option maxHeartbeats 4000000 in
theorem c146_12b (nm : ByteArray) (num : Int) (ks : List D) (a b c : ByteArray) : Pf Tryz.prog 146 [.agg [.int .i64 12, .str nm, .int .i64 num, .sl ks], .sl [.str a, .str b, .str c]] (.d (.str (whenS (decide (a = sArr2) && allB [b, c] sInt) sInt))) := by
 refine pfb Tryz.func146 Tryz.ntmps146 Tryz.results146 (fun S0 O0 w0 m0 hm0 => ?_)
 repeat' first | refine st (by exact rfl) ?_ | refine ct (by exact rfl) ?_ rfl | refine cf (by exact rfl) ?_ rfl | refine el (by exact rfl) rfl ?_ (by decide) | refine elg (.str a) (by exact rfl) (fun _ => ⟨by decide, by rfl, by rfl⟩) ?_ | refine elg (.str b) (by exact rfl) (fun _ => ⟨by decide, by rfl, by rfl⟩) ?_ | refine elg (.str c) (by exact rfl) (fun _ => ⟨by decide, by rfl, by rfl⟩) ?_ | fail
 refine Z27 ?_
 iterate 2 refine ov (hc := ?_)
 refine Z36 ?_
 iterate 4 refine ov (hc := ?_)
 refine oix (.str sArr2) u228 u9 (h0 := by simp) (h1 := by simp) (hc := ?_)
 iterate 3 refine ov (hc := ?_)
 refine oqg (hcc := fun _ => ?_) (hc := ?_)
 · refine ⟨⟨by decide, by simp⟩, fun x hx => ?_⟩
   simp only [List.mem_cons, List.not_mem_nil, or_false] at hx
   rcases hx with rfl | rfl | rfl <;> rfl
 refine ocg (hcl := fun _ => c222 [b, c] sInt (by simp)) (hc := ?_)
 refine Z3 ?_;refine Z90 ?_;refine Z138 ?_
 repeat' first | refine st (by exact rfl) ?_ | refine ct (by exact rfl) ?_ rfl | refine cf (by exact rfl) ?_ rfl | refine el (by exact rfl) rfl ?_ (by decide) | refine elg (.str a) (by exact rfl) (fun _ => ⟨by decide, by rfl, by rfl⟩) ?_ | refine elg (.str b) (by exact rfl) (fun _ => ⟨by decide, by rfl, by rfl⟩) ?_ | refine elg (.str c) (by exact rfl) (fun _ => ⟨by decide, by rfl, by rfl⟩) ?_ | fail
 exact Y1
end
section
theorem opsM_get (nm : ByteArray) (z : D) (hz : z = .agg [.str ⟨#[]⟩, .str ⟨#[]⟩, .int .i64 0]) : mgetQ (.str nm) z opsM = .agg [.str (opGet nm).1, .str (opGet nm).2.1, .int .i64 (opGet nm).2.2] := by
 subst hz
 unfold opsM opGet
 induction opTab with
 | nil => rfl
 | cons x r ih =>
  rw [List.map_cons, mgetQ, List.find?_cons]
  by_cases h : x.1 = nm
  · rw [show D.keyQ (.str x.1) (.str nm) = true from by subst h; simp [D.keyQ, D.leafQ], show decide (x.1 = nm) = true from decide_eq_true h]
    rfl
  · rw [show D.keyQ (.str x.1) (.str nm) = false from by simp [D.keyQ, D.leafQ, h], show decide (x.1 = nm) = false from decide_eq_false h]
    exact ih
theorem opsM_lsK (nm : ByteArray) : lsK false (.str nm) (.agg [.str ⟨#[]⟩, .str ⟨#[]⟩, .int .i64 0]) opsM = some (.d (.agg [.str (opGet nm).1, .str (opGet nm).2.1, .int .i64 (opGet nm).2.2])) := by
 unfold lsK
 rw [opsM_get nm _ rfl]
set_option maxHeartbeats 4000000 in
theorem c146_15 (nm : ByteArray) (hnm : nm.size ≤ 140737488355328) (num : Int) (ks : List D) (a : ByteArray) (r : List ByteArray) (hl : r.length ≤ 1000000) : Pf Tryz.prog 146 [.agg [.int .i64 15, .str nm, .int .i64 num, .sl ks], .sl (.str a :: r.map .str)] (.d (.str (whenS (decide (a = (opGet nm).1) && allB r sInt) (opGet nm).2.1))) := by
 refine pfb Tryz.func146 Tryz.ntmps146 Tryz.results146 (fun S0 O0 w0 m0 hm0 => ?_)
 repeat' (fail_if_success with_reducible refine ar 1 ?_); first | refine st (by exact rfl) ?_ | fail
 refine Z69 ?_
 repeat' first | refine st (by exact rfl) ?_ | refine ct (by exact rfl) ?_ rfl | refine cf (by exact rfl) ?_ rfl | refine el (by exact rfl) rfl ?_ (by decide) | fail
 refine om 4 5 [[.d (.str ⟨#[]⟩), .d (.str ⟨#[]⟩), .d (.int .i64 0)]] [[.d (.str (opGet nm).1), .d (.str (opGet nm).2.1), .d (.int .i64 (opGet nm).2.2)]] (hc := ?_)
 refine ocm (hcl := c224) (hc := ?_)
 iterate 2 refine ovm (hc := ?_)
 refine olsm C9 (hr := opsM_lsK nm) (hk := Nat.ble_eq_true_of_le hnm) (hc := ?_)
 refine omk (hc := ?_)
 refine ofl (hc := ?_)
 refine oem (hc := ?_)
 repeat' first | refine st (by exact rfl) ?_ | refine ct (by exact rfl) ?_ rfl | refine cf (by exact rfl) ?_ rfl | refine el (by exact rfl) rfl ?_ (by decide) | fail
 refine Z27 ?_
 iterate 2 refine ov (hc := ?_)
 refine Z36 ?_
 iterate 6 refine ov (hc := ?_)
 refine oqg (hcc := fun _ => ?_) (hc := ?_)
 · refine ⟨⟨by decide, by simp only [List.length_cons, List.length_map]; omega⟩, fun x hx => ?_⟩
   simp only [List.mem_cons, List.mem_map] at hx
   rcases hx with rfl | ⟨y, _, rfl⟩ <;> rfl
 refine ocg (hcl := fun _ => c222 r sInt (by omega)) (hc := ?_)
 iterate 3 refine ov (hc := ?_)
 refine Z90 ?_;refine Z138 ?_
 repeat' first | refine st (by exact rfl) ?_ | refine ct (by exact rfl) ?_ rfl | refine cf (by exact rfl) ?_ rfl | refine el (by exact rfl) rfl ?_ (by decide) | fail
 exact Y1
end
section
def ruU (nm : ByteArray) : List (ByteArray × ByteArray) := if nm = ⟨#[45]⟩ then [(⟨#[105, 110, 116]⟩, ⟨#[105, 110, 116]⟩)] else [(⟨#[98, 111, 111, 108]⟩, ⟨#[98, 111, 111, 108]⟩)]
def ruB (nm : ByteArray) : List (ByteArray × ByteArray) := if (decide (nm = ⟨#[43]⟩) || decide (nm = ⟨#[45]⟩) || decide (nm = ⟨#[42]⟩) || decide (nm = ⟨#[47]⟩) || decide (nm = ⟨#[37]⟩)) = true then [(⟨#[105, 110, 116, 32, 105, 110, 116]⟩, ⟨#[105, 110, 116]⟩)] else if (decide (nm = ⟨#[61, 61]⟩) || decide (nm = ⟨#[33, 61]⟩)) = true then [(⟨#[105, 110, 116, 32, 105, 110, 116]⟩, ⟨#[98, 111, 111, 108]⟩), (⟨#[98, 111, 111, 108, 32, 98, 111, 111, 108]⟩, ⟨#[98, 111, 111, 108]⟩)] else if (decide (nm = ⟨#[60]⟩) || decide (nm = ⟨#[60, 61]⟩) || decide (nm = ⟨#[62]⟩) || decide (nm = ⟨#[62, 61]⟩)) = true then [(⟨#[105, 110, 116, 32, 105, 110, 116]⟩, ⟨#[98, 111, 111, 108]⟩)] else [(⟨#[98, 111, 111, 108, 32, 98, 111, 111, 108]⟩, ⟨#[98, 111, 111, 108]⟩)]
def opT (op : Int) (nm : ByteArray) : List ByteArray → ByteArray
 | [] => ⟨#[]⟩
 | a :: r =>
  if op = 5 then ruleT (ruU nm) a
  else if op = 7 then whenS (allB (a :: r) sInt) sRange
  else if op = 10 then (match r with | [] => whenS (allB [a] sRange) sDom1 | _ => whenS (allB (a :: r) sRange) sDom2)
  else if op = 11 then whenS (isDomB a && allB r sInt) a
  else if op = 12 then (match r with | [_] => whenS (decide (a = sArr1) && allB r sInt) sInt | _ => whenS (decide (a = sArr2) && allB r sInt) sInt)
  else if op = 14 then fieldT nm a
  else if op = 15 then whenS (decide (a = (opGet nm).1) && allB r sInt) (opGet nm).2.1
  else if op = 18 then whenS ((decide (a = sRange) || decide (a = sDom1)) || isArrB a) sInt
  else match r with
   | [] => ⟨#[]⟩
   | b :: r' =>
    if op = 6 then ruleT (ruB nm) (joinT a b)
    else if op = 8 then whenS (decide (a = sRange) && decide (b = sInt)) sRange
    else if op = 9 then whenS (decide (a = sRange) && decide (b = sInt)) sRange
    else match r' with
     | [] => ⟨#[]⟩
     | c :: _ => whenS ((decide (a = sBool) && decide (b = c)) && (((decide (b = sInt) || decide (b = sBool)) || decide (b = sRange)) || isDomB b)) b
variable {ks : List Tr} {x : UInt8}
theorem kw1 (h : kidsB ks ⟨#[x]⟩ = true) : ks.length = 1 := kidsB_len h
theorem kw2 {y : UInt8} (h : kidsB ks ⟨#[x, y]⟩ = true) : ks.length = 2 := kidsB_len h
theorem kw3 {y z : UInt8} (h : kidsB ks ⟨#[x, y, z]⟩ = true) : ks.length = 3 := kidsB_len h
variable {α : Type}
theorem ln1 : ∀ {l : List α}, l.length = 1 → ∃ a, l = [a]
 | [a], _ => ⟨a, rfl⟩
theorem ln2 : ∀ {l : List α}, l.length = 2 → ∃ a b, l = [a, b]
 | [a, b], _ => ⟨a, b, rfl⟩
theorem ln3 : ∀ {l : List α}, l.length = 3 → ∃ a b c, l = [a, b, c]
 | [a, b, c], _ => ⟨a, b, c, rfl⟩
theorem lnS : ∀ {l : List α}, 0 < l.length → ∃ a r, l = a :: r
 | a :: r, _ => ⟨a, r, rfl⟩
theorem c146s5 (nm : ByteArray) (num : Int) (ks : List Tr) (l : List ByteArray) (hl : l.length = ks.length) (hs : ∀ t ∈ l, t.size ≤ 1000000) (hr : rightB (.mk 5 nm num ks) = true) : Pf Tryz.prog 146 [(Tr.mk 5 nm num ks).d, .sl (l.map .str)] (.d (.str (opT 5 nm l))) := by
 rw [right5] at hr
 rw [Tr.d_mk]
 simp only [Bool.and_eq_true] at hr
 obtain ⟨⟨hn, _⟩, hk⟩ := hr
 obtain ⟨a, rfl⟩ := ln1 (hl.trans (kw1 hk))
 rw [Bool.or_eq_true, decide_eq_true_eq, decide_eq_true_eq] at hn
 rcases hn with rfl | rfl
 · exact c146u0 num _ a (hs a (by simp))
 · exact c146u1 num _ a (hs a (by simp))
theorem c146s6 (nm : ByteArray) (num : Int) (ks : List Tr) (l : List ByteArray) (hl : l.length = ks.length) (hs : ∀ t ∈ l, t.size ≤ 1000000) (hr : rightB (.mk 6 nm num ks) = true) : Pf Tryz.prog 146 [(Tr.mk 6 nm num ks).d, .sl (l.map .str)] (.d (.str (opT 6 nm l))) := by
 rw [right6] at hr
 rw [Tr.d_mk]
 simp only [Bool.and_eq_true] at hr
 obtain ⟨⟨hn, _⟩, hk⟩ := hr
 obtain ⟨a, b, rfl⟩ := ln2 (hl.trans (kw2 hk))
 simp only [hasB, List.any_cons, List.any_nil, Bool.or_eq_true, decide_eq_true_eq, Bool.false_eq_true, or_false] at hn
 have ha := hs a (by simp)
 have hb := hs b (by simp)
 rcases hn with rfl | rfl | rfl | rfl | rfl | rfl | rfl | rfl | rfl | rfl | rfl | rfl | rfl
 · exact c146b0 num _ a b ha hb
 · exact c146b1 num _ a b ha hb
 · exact c146b2 num _ a b ha hb
 · exact c146b3 num _ a b ha hb
 · exact c146b4 num _ a b ha hb
 · exact c146b5 num _ a b ha hb
 · exact c146b6 num _ a b ha hb
 · exact c146b7 num _ a b ha hb
 · exact c146b8 num _ a b ha hb
 · exact c146b9 num _ a b ha hb
 · exact c146b10 num _ a b ha hb
 · exact c146b11 num _ a b ha hb
 · exact c146b12 num _ a b ha hb
theorem c146s7 (nm : ByteArray) (num : Int) (ks : List Tr) (l : List ByteArray) (hl : l.length = ks.length) (hs : ∀ t ∈ l, t.size ≤ 1000000) (hr : rightB (.mk 7 nm num ks) = true) : Pf Tryz.prog 146 [(Tr.mk 7 nm num ks).d, .sl (l.map .str)] (.d (.str (opT 7 nm l))) := by
 rw [right7] at hr
 rw [Tr.d_mk]
 simp only [Bool.and_eq_true] at hr
 obtain ⟨_, hk⟩ := hr
 obtain ⟨a, b, rfl⟩ := ln2 (hl.trans (kw2 hk))
 exact c146_7 nm num _ a b
theorem c146s8 (nm : ByteArray) (num : Int) (ks : List Tr) (l : List ByteArray) (hl : l.length = ks.length) (hs : ∀ t ∈ l, t.size ≤ 1000000) (hr : rightB (.mk 8 nm num ks) = true) : Pf Tryz.prog 146 [(Tr.mk 8 nm num ks).d, .sl (l.map .str)] (.d (.str (opT 8 nm l))) := by
 rw [right8] at hr
 rw [Tr.d_mk]
 simp only [Bool.and_eq_true] at hr
 obtain ⟨_, hk⟩ := hr
 obtain ⟨a, b, rfl⟩ := ln2 (hl.trans (kw2 hk))
 exact c146_8 nm num _ a b
theorem c146s9 (nm : ByteArray) (num : Int) (ks : List Tr) (l : List ByteArray) (hl : l.length = ks.length) (hs : ∀ t ∈ l, t.size ≤ 1000000) (hr : rightB (.mk 9 nm num ks) = true) : Pf Tryz.prog 146 [(Tr.mk 9 nm num ks).d, .sl (l.map .str)] (.d (.str (opT 9 nm l))) := by
 rw [right9] at hr
 rw [Tr.d_mk]
 simp only [Bool.and_eq_true] at hr
 obtain ⟨_, hk⟩ := hr
 obtain ⟨a, b, rfl⟩ := ln2 (hl.trans (kw2 hk))
 exact c146_9 nm num _ a b
theorem c146s10 (nm : ByteArray) (num : Int) (ks : List Tr) (l : List ByteArray) (hl : l.length = ks.length) (hs : ∀ t ∈ l, t.size ≤ 1000000) (hr : rightB (.mk 10 nm num ks) = true) : Pf Tryz.prog 146 [(Tr.mk 10 nm num ks).d, .sl (l.map .str)] (.d (.str (opT 10 nm l))) := by
 rw [right10] at hr
 rw [Tr.d_mk]
 simp only [Bool.and_eq_true] at hr
 obtain ⟨_, hk⟩ := hr
 rw [Bool.or_eq_true] at hk
 rcases hk with hk | hk
 · obtain ⟨a, rfl⟩ := ln1 (hl.trans (kw1 hk))
   exact c146_10a nm num _ a
 · obtain ⟨a, b, rfl⟩ := ln2 (hl.trans (kw2 hk))
   exact c146_10b nm num _ a b
theorem c146s12 (nm : ByteArray) (num : Int) (ks : List Tr) (l : List ByteArray) (hl : l.length = ks.length) (hs : ∀ t ∈ l, t.size ≤ 1000000) (hr : rightB (.mk 12 nm num ks) = true) : Pf Tryz.prog 146 [(Tr.mk 12 nm num ks).d, .sl (l.map .str)] (.d (.str (opT 12 nm l))) := by
 rw [right12] at hr
 rw [Tr.d_mk]
 simp only [Bool.and_eq_true] at hr
 obtain ⟨_, hk⟩ := hr
 rw [Bool.or_eq_true] at hk
 rcases hk with hk | hk
 · obtain ⟨a, b, rfl⟩ := ln2 (hl.trans (kw2 hk))
   exact c146_12a nm num _ a b
 · obtain ⟨a, b, c, rfl⟩ := ln3 (hl.trans (kw3 hk))
   exact c146_12b nm num _ a b c
theorem c146s14 (nm : ByteArray) (num : Int) (ks : List Tr) (l : List ByteArray) (hl : l.length = ks.length) (hs : ∀ t ∈ l, t.size ≤ 1000000) (hr : rightB (.mk 14 nm num ks) = true) : Pf Tryz.prog 146 [(Tr.mk 14 nm num ks).d, .sl (l.map .str)] (.d (.str (opT 14 nm l))) := by
 rw [right14] at hr
 rw [Tr.d_mk]
 simp only [Bool.and_eq_true] at hr
 obtain ⟨_, hk⟩ := hr
 obtain ⟨a, rfl⟩ := ln1 (hl.trans (kw1 hk))
 exact c146_14 nm num _ a
theorem c146s18 (nm : ByteArray) (num : Int) (ks : List Tr) (l : List ByteArray) (hl : l.length = ks.length) (hs : ∀ t ∈ l, t.size ≤ 1000000) (hr : rightB (.mk 18 nm num ks) = true) : Pf Tryz.prog 146 [(Tr.mk 18 nm num ks).d, .sl (l.map .str)] (.d (.str (opT 18 nm l))) := by
 rw [right18] at hr
 rw [Tr.d_mk]
 simp only [Bool.and_eq_true] at hr
 obtain ⟨_, hk⟩ := hr
 obtain ⟨a, rfl⟩ := ln1 (hl.trans (kw1 hk))
 exact c146_18 nm num _ a
theorem c146s19 (nm : ByteArray) (num : Int) (ks : List Tr) (l : List ByteArray) (hl : l.length = ks.length) (hs : ∀ t ∈ l, t.size ≤ 1000000) (hr : rightB (.mk 19 nm num ks) = true) : Pf Tryz.prog 146 [(Tr.mk 19 nm num ks).d, .sl (l.map .str)] (.d (.str (opT 19 nm l))) := by
 rw [right19] at hr
 rw [Tr.d_mk]
 simp only [Bool.and_eq_true] at hr
 obtain ⟨_, hk⟩ := hr
 obtain ⟨a, b, c, rfl⟩ := ln3 (hl.trans (kw3 hk))
 exact c146_19 nm num _ a b c
theorem c146s11 (nm : ByteArray) (num : Int) (ks : List Tr) (l : List ByteArray) (hl : l.length = ks.length) (hs : ∀ t ∈ l, t.size ≤ 1000000) (hk : ks.length ≤ 1000000) (hr : rightB (.mk 11 nm num ks) = true) : Pf Tryz.prog 146 [(Tr.mk 11 nm num ks).d, .sl (l.map .str)] (.d (.str (opT 11 nm l))) := by
 rw [right11] at hr
 rw [Tr.d_mk]
 have hp : 0 < l.length := by
  split at hr
  · rw [Bool.and_eq_true] at hr; rw [hl, kw2 hr.2]; decide
  · rw [Bool.and_eq_true] at hr; rw [hl, kw1 hr.2]; decide
 obtain ⟨a, r, rfl⟩ := lnS hp
 rw [List.length_cons] at hl
 exact c146_11 nm num _ a r (by omega)
theorem c146s15 (nm : ByteArray) (num : Int) (ks : List Tr) (l : List ByteArray) (hl : l.length = ks.length) (hs : ∀ t ∈ l, t.size ≤ 1000000) (hk : ks.length ≤ 1000000) (hnm : nm.size ≤ 140737488355328) (hr : rightB (.mk 15 nm num ks) = true) : Pf Tryz.prog 146 [(Tr.mk 15 nm num ks).d, .sl (l.map .str)] (.d (.str (opT 15 nm l))) := by
 rw [right15] at hr
 rw [Tr.d_mk]
 simp only [Bool.and_eq_true, decide_eq_true_eq] at hr
 have hp : 0 < l.length := by
  rw [hl, kidsB_len hr.2, ByteArray.size_extract]
  have : eee.size = 3 := rfl
  omega
 obtain ⟨a, r, rfl⟩ := lnS hp
 rw [List.length_cons] at hl
 exact c146_15 nm hnm num _ a r (by omega)
theorem c146 (op : Int) (nm : ByteArray) (num : Int) (ks : List Tr) (l : List ByteArray) (hl : l.length = ks.length) (hs : ∀ t ∈ l, t.size ≤ 1000000) (hk : ks.length ≤ 1000000) (hnm : nm.size ≤ 140737488355328) (he : isExprB op = true) (hn : op ≠ 1 ∧ op ≠ 2 ∧ op ≠ 4 ∧ op ≠ 13 ∧ op ≠ 16 ∧ op ≠ 17) (hr : rightB (.mk op nm num ks) = true) : Pf Tryz.prog 146 [(Tr.mk op nm num ks).d, .sl (l.map .str)] (.d (.str (opT op nm l))) := by
 have ho : op = 5 ∨ op = 6 ∨ op = 7 ∨ op = 8 ∨ op = 9 ∨ op = 10 ∨ op = 11 ∨ op = 12 ∨ op = 14 ∨ op = 15 ∨ op = 18 ∨ op = 19 := by
  unfold isExprB at he
  simp only [Bool.and_eq_true, decide_eq_true_eq, bne_iff_ne, ne_eq] at he
  omega
 rcases ho with rfl | rfl | rfl | rfl | rfl | rfl | rfl | rfl | rfl | rfl | rfl | rfl
 · exact c146s5 nm num ks l hl hs hr
 · exact c146s6 nm num ks l hl hs hr
 · exact c146s7 nm num ks l hl hs hr
 · exact c146s8 nm num ks l hl hs hr
 · exact c146s9 nm num ks l hl hs hr
 · exact c146s10 nm num ks l hl hs hr
 · exact c146s11 nm num ks l hl hs hk hr
 · exact c146s12 nm num ks l hl hs hr
 · exact c146s14 nm num ks l hl hs hr
 · exact c146s15 nm num ks l hl hs hk hnm hr
 · exact c146s18 nm num ks l hl hs hr
 · exact c146s19 nm num ks l hl hs hr
end
section
structure Gv where
 nm : ByteArray
 ty : ByteArray
 con : Bool
def Gv.d (x : Gv) : D := .agg [.str x.nm, .str x.ty, .bool x.con]
def gvs (g : List Gv) : List (D × D) := g.map fun x => (.str x.nm, x.d)
structure Nm where
 p : Pg
 g : List Gv
 ls : List Lc
def Nm.d (n : Nm) : D := .agg [.sl (n.p.globals.map Tr.d), .sl (n.p.procs.map Pc.d), .map (gvs n.g), locD n.ls]
def lookN (n : Nm) (s : ByteArray) : Option Gv := match findL s n.ls with
 | x :: _ => some ⟨x.nm, x.ty, x.con⟩
 | [] => n.g.find? fun x => decide (x.nm = s)
def zGv : D := .agg [.str ⟨#[]⟩, .str ⟨#[]⟩, .bool false]
theorem gvs_get (s : ByteArray) : ∀ g : List Gv, mgetQ (.str s) zGv (gvs g) = (match g.find? fun x => decide (x.nm = s) with | some x => x.d | none => zGv) ∧ mhasQ (.str s) (gvs g) = (g.find? fun x => decide (x.nm = s)).isSome
 | [] => ⟨rfl, rfl⟩
 | x :: r => by
  rw [gvs, List.map_cons, mgetQ, mhasQ, List.find?_cons]
  by_cases h : x.nm = s
  · rw [show D.keyQ (.str x.nm) (.str s) = true from by subst h; simp [D.keyQ, D.leafQ], show decide (x.nm = s) = true from decide_eq_true h]
    exact ⟨rfl, rfl⟩
  · rw [show D.keyQ (.str x.nm) (.str s) = false from by simp [D.keyQ, D.leafQ, h], show decide (x.nm = s) = false from decide_eq_false h]
    exact gvs_get s r
theorem gvs_some {s : ByteArray} {g : List Gv} {x : Gv} (h : g.find? (fun x => decide (x.nm = s)) = some x) : lsK true (.str s) zGv (gvs g) = some (.tup [.d x.d, .d (.bool true)]) := by
 obtain ⟨h1, h2⟩ := gvs_get s g
 rw [h] at h1 h2
 unfold lsK
 rw [h1, h2]
 rfl
theorem gvs_none {s : ByteArray} {g : List Gv} (h : g.find? (fun x => decide (x.nm = s)) = none) : lsK true (.str s) zGv (gvs g) = some (.tup [.d zGv, .d (.bool false)]) := by
 obtain ⟨h1, h2⟩ := gvs_get s g
 rw [h] at h1 h2
 unfold lsK
 rw [h2]
 rfl
structure Nm.Ok (n : Nm) : Prop where
 p : n.p.Ok
 g : ∀ x ∈ n.g, x.nm.size ≤ 140737488355328
theorem Nm.Ok.keys {n : Nm} (h : n.Ok) : (gvs n.g).all (fun x => strB x.1) = true := by
 rw [List.all_eq_true]
 intro x hx
 obtain ⟨y, hy, rfl⟩ := List.mem_map.1 hx
 exact Nat.ble_eq_true_of_le (h.g y hy)
def outL : Option Gv → PV ⊕ Value
 | some x => .inl (.d x.d)
 | none => .inr (wrongW 9)
theorem c144 (n : Nm) (hn : n.Ok) (s : ByteArray) (hs : s.size ≤ 140737488355328) : Px Tryz.prog 144 [n.d, .str s] (outL (lookN n s)) := by
 have q := c200L n.ls s
 have hk := hn.keys
 unfold lookN
 cases hf : findL s n.ls with
 | cons x r =>
  rw [hf] at q
  refine pxB Tryz.func144 Tryz.ntmps144 Tryz.results144 (fun S0 O0 w0 m0 hm0 => ?_)
  repeat' first | refine st (by exact rfl) ?_ | refine ct (by exact rfl) ?_ rfl | refine cf (by exact rfl) ?_ rfl | fail
  refine Z76 ?_
  dsimp only [locD]
  repeat' first | refine st (by exact rfl) ?_ | refine ct (by exact rfl) ?_ rfl | refine cf (by exact rfl) ?_ rfl | fail
  exact Y7
 | nil =>
  rw [hf] at q
  have hs' : strB (.str s) = true := Nat.ble_eq_true_of_le hs
  dsimp only
  cases hg : n.g.find? (fun x => decide (x.nm = s)) with
  | some x =>
   refine pxB Tryz.func144 Tryz.ntmps144 Tryz.results144 (fun S0 O0 w0 m0 hm0 => ?_)
   repeat' first | refine st (by exact rfl) ?_ | refine ct (by exact rfl) ?_ rfl | refine cf (by exact rfl) ?_ rfl | fail
   refine Z76 ?_
   dsimp only [locD]
   repeat' first | refine st (by exact rfl) ?_ | refine ct (by exact rfl) ?_ rfl | refine cf (by exact rfl) ?_ rfl | fail
   refine ls C9 (by exact rfl) (hr := gvs_some hg) (hks := hk) (hk := hs') (hg := ?_)
   dsimp only [Gv.d]
   repeat' first | refine st (by exact rfl) ?_ | refine cl (by exact rfl) (c119t 9).inl ?_ | fail
   exact Y7
  | none =>
   refine pxB Tryz.func144 Tryz.ntmps144 Tryz.results144 (fun S0 O0 w0 m0 hm0 => ?_)
   repeat' first | refine st (by exact rfl) ?_ | refine ct (by exact rfl) ?_ rfl | refine cf (by exact rfl) ?_ rfl | fail
   refine Z76 ?_
   dsimp only [locD]
   repeat' first | refine st (by exact rfl) ?_ | refine ct (by exact rfl) ?_ rfl | refine cf (by exact rfl) ?_ rfl | fail
   refine ls C9 (by exact rfl) (hr := gvs_none hg) (hks := hk) (hk := hs') (hg := ?_)
   dsimp only [zGv]
   repeat' first | refine st (by exact rfl) ?_ | refine clp (by exact rfl) (c119f 9) ?_ | fail
   exact gPan rfl
end
section
def callQ (q : Pc) (b : Bool) (l : List ByteArray) : Except Int ByteArray :=
 if q.formals.any staticB = true then .error 153 else if (b || !q.iter) = false then .error 151 else if l.length ≠ q.formals.length then .error 5 else if ((l.zip q.formals).all fun x => decide (x.1 = x.2.ty.nm)) = true then .ok q.result.nm else .error 13
def callT (p : Pg) (nm : ByteArray) (b : Bool) (l : List ByteArray) : Except Int ByteArray := match p.procs.findIdx? (fun q => decide (q.nm = nm)) with
 | none => .error 9
 | some i => match p.procs[i]? with
  | none => .error 9
  | some q => callQ q b l
def opE (t : ByteArray) : Except Int ByteArray := if t = ⟨#[]⟩ then .error 13 else .ok t
def lookE : Option Gv → Except Int ByteArray
 | some x => .ok x.ty
 | none => .error 9
mutual
/-- The type of an expression, or its error. -/
def typeT (n : Nm) : Tr → Bool → Except Int ByteArray
 | .mk op nm _ ks, b =>
  if op = 1 ∨ op = 16 ∨ op = 17 then .ok sInt
  else if op = 2 then .ok sBool
  else if op = 4 then lookE (lookN n nm)
  else if op = 13 then (argsT n ks).bind (callT n.p nm b)
  else (kidsT n ks).bind fun l => opE (opT op nm l)
def kidsT (n : Nm) : List Tr → Except Int (List ByteArray)
 | [] => .ok []
 | k :: r => (typeT n k false).bind fun t => (kidsT n r).bind fun l => .ok (t :: l)
def argsT (n : Nm) : List Tr → Except Int (List ByteArray)
 | [] => .ok []
 | k :: r => if k.op = 30 then .error 153 else (typeT n k false).bind fun t => (argsT n r).bind fun l => .ok (t :: l)
end
def outT : Except Int ByteArray → PV ⊕ Value
 | .ok s => .inl (.d (.str s))
 | .error e => .inr (wrongW e)
def lstD : List D → PV
 | [] => .nils
 | x :: r => .osl 1 (x :: r)
def kidsI (n : Nm) (ks : List Tr) (xs : List D) (z : Nat) : Prop := ∃ done : List ByteArray, xs = done.map .str ∧ done.length = z ∧ z ≤ ks.length ∧ (∀ e, kidsT n (ks.drop z) = .error e → kidsT n ks = .error e) ∧ (∀ l, kidsT n (ks.drop z) = .ok l → kidsT n ks = .ok (done ++ l))
variable {n : Nm} {ks : List Tr} {z : Nat}
theorem kidsI_err {xs : List D} {k : Tr} {e : Int} (h : kidsI n ks xs z) (hk : ks[z]? = some k) (ht : typeT n k false = .error e) : kidsT n ks = .error e := by
 obtain ⟨done, _, _, _, h4, _⟩ := h
 obtain ⟨hz, hk'⟩ := List.getElem?_eq_some_iff.1 hk
 refine h4 e ?_
 rw [List.drop_eq_getElem_cons hz, hk', kidsT, ht]
 rfl
theorem kidsI_ok {xs : List D} {k : Tr} {t : ByteArray} (h : kidsI n ks xs z) (hk : ks[z]? = some k) (ht : typeT n k false = .ok t) : kidsI n ks (xs ++ [.str t]) (z + 1) := by
 obtain ⟨done, h1, h2, h3, h4, h5⟩ := h
 obtain ⟨hz, hk'⟩ := List.getElem?_eq_some_iff.1 hk
 have hd : kidsT n (ks.drop z) = (kidsT n (ks.drop (z + 1))).bind fun l => .ok (t :: l) := by
  rw [List.drop_eq_getElem_cons hz, hk', kidsT, ht]
  rfl
 refine ⟨done ++ [t], by rw [h1]; simp, by simp [h2], hz, fun e he => h4 e (by rw [hd, he]; rfl), fun l hl => ?_⟩
 have := h5 (t :: l) (by rw [hd, hl]; rfl)
 rw [this]; simp
theorem kidsI_end {xs : List D} (h : kidsI n ks xs z) (hz : ks.length ≤ z) : ∃ done : List ByteArray, xs = done.map .str ∧ done.length = ks.length ∧ kidsT n ks = .ok done := by
 obtain ⟨done, h1, h2, h3, _, h5⟩ := h
 refine ⟨done, h1, by omega, ?_⟩
 have := h5 [] (by rw [List.drop_eq_nil_of_le hz]; rfl)
 rw [this, List.append_nil]
set_option maxHeartbeats 4000000 in
theorem c80o (n : Nm) (op : Int) (nm : ByteArray) (num : Int) (ks : List Tr) (b : Bool) (h1 : (op == 1) = false) (h16 : (op == 16) = false) (h17 : (op == 17) = false) (h2 : (op == 2) = false) (h4 : (op == 4) = false) (h13 : (op == 13) = false) (hl : ks.length ≤ 1000000)
 (hk : ∀ k ∈ ks, Px Tryz.prog 80 [n.d, k.d, .bool false] (outT (typeT n k false))) (ho : ∀ l : List ByteArray, l.length = ks.length → kidsT n ks = .ok l → Pf Tryz.prog 146 [.agg [.int .i64 op, .str nm, .int .i64 num, .sl (ks.map Tr.d)], .sl (l.map .str)] (.d (.str (opT op nm l)))) :
 Px Tryz.prog 80 [n.d, .agg [.int .i64 op, .str nm, .int .i64 num, .sl (ks.map Tr.d)], .bool b] (outT ((kidsT n ks).bind fun l => opE (opT op nm l))) := by
 refine pxB Tryz.func80 Tryz.ntmps80 Tryz.results80 (fun S0 O0 w0 m0 hm0 => ?_)
 repeat' first | refine st (by exact rfl) ?_ | refine cf (by exact rfl) ?_ (by assumption) | fail
 refine gLo (fun y : List D × Nat => ⟨[(3, .ref 0 0), (4, .ref 1 0), (7, lstD y.1), (33, .d (.sl (ks.map Tr.d))), (34, .d (.int .i64 ((ks.map Tr.d).length : Int))), (35, .d (.int .i64 (y.2 : Int)))], [[.d (.sl (n.p.globals.map Tr.d)), .d (.sl (n.p.procs.map Pc.d)), .d (.map (gvs n.g)), .d (locD n.ls)], [.d (.int .i64 op), .d (.str nm), .d (.int .i64 num), .d (.sl (ks.map Tr.d))]]⟩) (fun y => ks.length - y.2) (fun y => kidsI n ks y.1 y.2) ([], 0) ⟨[], rfl, rfl, Nat.zero_le _, fun e he => he, fun l hl => hl⟩ le_of (fun y hy Q' hn he hr hp => ?_)
 obtain ⟨xs, z⟩ := y
 dsimp only at hy
 have hlen : (ks.map Tr.d).length = ks.length := List.length_map ..
 rcases xs with _ | ⟨x0, r0⟩
 all_goals dsimp only [lstD]
 all_goals repeat' first | refine st (by exact rfl) ?_ | fail
 all_goals refine cd (by exact rfl) (fun hb => ?_) (fun hb => ?_)
 · have hz : z < ks.length := by have := oR hb; omega
   obtain ⟨k, hkz⟩ : ∃ k, ks[z]? = some k := ⟨ks[z], gE hz⟩
   have q := hk k (mG hkz)
   have hxd := Tr.ds_get hkz
   obtain ⟨kop, knm, knu, kks, hka⟩ := k.d_agg
   rw [hka] at q hxd
   repeat' first | refine st (by exact rfl) ?_ | fail
   refine el (by exact rfl) hxd ?_ (by omega)
   repeat' first | refine st (by exact rfl) ?_ | fail
   cases ht : typeT n k false with
   | error e =>
    rw [ht] at q
    refine Z93 ?_
    repeat' first | refine st (by exact rfl) ?_ | fail
    refine Z98 ?_
    repeat' first | refine st (by exact rfl) ?_ | fail
    exact gPan (by rw [kidsI_err hy hkz ht]; rfl)
   | ok t =>
    rw [ht] at q
    refine Z89 ?_
    repeat' first | refine st (by exact rfl) ?_ | refine bs (by exact rfl) ?_ | refine ap (by exact rfl) ?_ | fail
    rw [wrap_succ (by omega)]
    exact Y6
 · obtain ⟨done, hx, hdl, hkd⟩ := kidsI_end hy (by have := of_decide_eq_false hb; omega)
   have q := ho done hdl hkd
   rw [← hx] at q
   repeat' first | refine st (by exact rfl) ?_ | fail
   refine Z68 ?_
   repeat' first | refine st (by exact rfl) ?_ | fail
   refine Z76 ?_
   repeat' first | refine st (by exact rfl) ?_ | fail
   by_cases h0 : opT op nm done = ⟨#[]⟩
   · have e0 : (!decide (opT op nm done = ⟨#[]⟩)) = false := by rw [h0]; decide
     refine clp (u := wrongW 13) (by exact rfl) ?_ ?_
     · rw [e0]; exact c119f 13
     · repeat' first | refine st (by exact rfl) ?_ | fail
       exact gPan (by rw [hkd]; simp only [Except.bind, opE, if_pos h0, outT])
   · have e0 : (!decide (opT op nm done = ⟨#[]⟩)) = true := by simp [h0]
     refine cl (r := .tup []) (by exact rfl) ?_ ?_
     · rw [e0]; exact (c119t 13).inl
     · repeat' first | refine st (by exact rfl) ?_ | fail
       exact Y18
 · have hz : z < ks.length := by have := oR hb; omega
   obtain ⟨k, hkz⟩ : ∃ k, ks[z]? = some k := ⟨ks[z], gE hz⟩
   have q := hk k (mG hkz)
   have hxd := Tr.ds_get hkz
   obtain ⟨kop, knm, knu, kks, hka⟩ := k.d_agg
   rw [hka] at q hxd
   have hlx : r0.length + 1 ≤ 1000000 := by
    obtain ⟨done, h5, h6, h7, _⟩ := hy
    have h8 := congrArg List.length h5
    simp only [List.length_cons, List.length_map] at h8
    omega
   repeat' first | refine st (by exact rfl) ?_ | fail
   refine el (by exact rfl) hxd ?_ (by omega)
   repeat' first | refine st (by exact rfl) ?_ | fail
   cases ht : typeT n k false with
   | error e =>
    rw [ht] at q
    refine Z93 ?_
    repeat' first | refine st (by exact rfl) ?_ | fail
    refine Z98 ?_
    repeat' first | refine st (by exact rfl) ?_ | fail
    exact gPan (by rw [kidsI_err hy hkz ht]; rfl)
   | ok t =>
    rw [ht] at q
    refine Z89 ?_
    repeat' first | refine st (by exact rfl) ?_ | refine bs (by exact rfl) ?_ | refine ap (by exact rfl) ?_ | fail
    rw [wrap_succ (by omega)]
    exact Y6
 · obtain ⟨done, hx, hdl, hkd⟩ := kidsI_end hy (by have := of_decide_eq_false hb; omega)
   have q := ho done hdl hkd
   rw [← hx] at q
   repeat' first | refine st (by exact rfl) ?_ | fail
   refine Z68 ?_
   repeat' first | refine st (by exact rfl) ?_ | fail
   refine Z76 ?_
   repeat' first | refine st (by exact rfl) ?_ | fail
   by_cases h0 : opT op nm done = ⟨#[]⟩
   · have e0 : (!decide (opT op nm done = ⟨#[]⟩)) = false := by rw [h0]; decide
     refine clp (u := wrongW 13) (by exact rfl) ?_ ?_
     · rw [e0]; exact c119f 13
     · repeat' first | refine st (by exact rfl) ?_ | fail
       exact gPan (by rw [hkd]; simp only [Except.bind, opE, if_pos h0, outT])
   · have e0 : (!decide (opT op nm done = ⟨#[]⟩)) = true := by simp [h0]
     refine cl (r := .tup []) (by exact rfl) ?_ ?_
     · rw [e0]; exact (c119t 13).inl
     · repeat' first | refine st (by exact rfl) ?_ | fail
       exact Y18
end
end Go.Proofs.YtklkbfpjimeaoaaGreat
