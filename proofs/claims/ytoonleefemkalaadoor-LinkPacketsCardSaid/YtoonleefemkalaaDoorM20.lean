import Derived.Test.YtoonleefemkalaaDoorM19
import Derived.Test.YtoonleefemkalaaDoorM17
/- Contracts of functions. Conditions: none. -/
set_option linter.unusedSimpArgs false
set_option linter.unusedVariables false
namespace Go.Proofs.YtoonleefemkalaaDoor
open Go Go.Proofs.YtoonleefemkalaaDoor.E
def aT : ByteArray := ⟨#[97]⟩
def c1 : Ch := nextC (newC 1) aT
def c2 : Ch := recZ { c1 with tos := [] } (enC ⟨1, 0, aT⟩)
theorem c1_tos : c1.tos = [enC ⟨1, 0, aT⟩] := by kernel_rfl
theorem c1_few : c1.Few := by
 refine ⟨?_, ?_, ?_, ?_, ?_, ?_⟩ <;> decide +kernel
theorem newC_few : (newC 1).Few := by
 refine ⟨?_, ?_, ?_, ?_, ?_, ?_⟩ <;> decide +kernel
theorem chkA : chkC c1 = false := by decide +kernel
theorem de1 : deE (enC ⟨1, 0, aT⟩) = 0 := by decide +kernel
theorem dp1 : deP (enC ⟨1, 0, aT⟩) = ⟨1, 0, aT⟩ := by kernel_rfl
theorem c2_del : c2.del = [aT] := by kernel_rfl
theorem c2_bak : c2.bak.length = 1 := by kernel_rfl
theorem send1 : sendS (newC 1) aT = c1 := by kernel_rfl
theorem send1e : sendE (newC 1) aT = 0 := by decide +kernel
theorem c45a : Mt 45 [.ref 0 0, .d (acD 1 false 0 0)] c1 (.d (.int .i64 0)) c2 := by
 have h := c45z c1 1 0 0 (x := enC ⟨1, 0, aT⟩) (by rw [c1_tos]; rfl) c1_few de1 (by rw [dp1]) (by rw [dp1]; decide +kernel) (by decide +kernel) (by decide +kernel)
 have he : (⟨c1.win, c1.base, c1.nxt, c1.una, c1.wai, c1.exp, c1.ear, c1.del, c1.tos.eraseIdx 0, c1.bak⟩ : Ch) = { c1 with tos := [] } := by rw [c1_tos]; rfl
 rw [show ({ c1 with tos := c1.tos.eraseIdx 0 } : Ch) = { c1 with tos := [] } from he] at h
 exact h
theorem c21a : Pf Tryd.prog 21 [c1.d, acD 1 false 0 0] (.tup [.d c2.d, .d (.int .i64 0)]) := by
 have h := c21_1t c1 c2 0 0 0 c1_few chkA (by decide) (by rw [c1_tos]; decide) c45a
 rwa [if_pos rfl] at h
theorem c18a : Pf Tryd.prog 18 [(newC 1).d, .str aT] (.tup [.d c1.d, .d (.int .i64 0)]) := by
 have h := c18 (newC 1) aT newC_few
 rwa [send1, send1e] at h
theorem c24a : Pf Tryd.prog 24 [.int .i64 1] (.tup [.d (newC 1).d, .d (.int .i64 0)]) := c24 1
theorem c9 : Pf Tryd.prog 9 [] (.d (.bool true)) := by
 have q24 := c24a
 have q18 := c18a
 have q21 := c21a
 have g1 : (newC 1).d = .agg [.int .i64 1, .int .i64 0, .int .i64 0, .sl [], .sl [], .int .i64 0, .sl [], .sl [], .sl [], .sl []] := rfl
 obtain ⟨b1, hb1⟩ : ∃ b, c1.bak = b := ⟨_, rfl⟩
 have g2 : c1.d = .agg [.int .i64 c1.win, .int .i64 c1.base, .int .i64 c1.nxt, strs c1.una, strs c1.wai, .int .i64 c1.exp, .sl (c1.ear.map Pk.d), strs c1.del, .sl [.str (enC ⟨1, 0, aT⟩)], strs c1.bak] := by
  unfold Ch.d; rw [c1_tos]; rfl
 have g3 : c2.d = .agg [.int .i64 c2.win, .int .i64 c2.base, .int .i64 c2.nxt, strs c2.una, strs c2.wai, .int .i64 c2.exp, .sl (c2.ear.map Pk.d), .sl [.str aT], strs c2.tos, strs c2.bak] := by
  unfold Ch.d; rw [c2_del]; rfl
 have hbk := c2_bak
 generalize c2.win = y0 at g3; generalize c2.base = y1 at g3; generalize c2.nxt = y2 at g3; generalize c2.una = y3 at g3; generalize c2.wai = y4 at g3; generalize c2.exp = y5 at g3; generalize c2.ear = y6 at g3; generalize c2.tos = y7 at g3; generalize c2.bak = y8 at g3 hbk
 generalize c1.win = z0 at g2; generalize c1.base = z1 at g2; generalize c1.nxt = z2 at g2; generalize c1.una = z3 at g2; generalize c1.wai = z4 at g2; generalize c1.exp = z5 at g2; generalize c1.ear = z6 at g2; generalize c1.del = z7 at g2; generalize c1.bak = z8 at g2
 rw [g1] at q24 q18
 rw [g2] at q18 q21
 rw [g3] at q21
 unfold acD at q21
 refine pfb Tryd.func9 Tryd.ntmps9 Tryd.results9 (fun S0 O0 w0 m0 hm0 => ?_)
 repeat' first | refine st (by exact rfl) ?_ | refine cl (by exact rfl) q24 ?_ | fail
 refine cf (by exact rfl) ?_ rfl
 repeat' first | refine st (by exact rfl) ?_ | refine cl (by exact rfl) q18 ?_ | fail
 refine cf (by exact rfl) ?_ rfl
 repeat' first | refine st (by exact rfl) ?_ | refine cl (by exact rfl) q21 ?_ | fail
 refine elg (.str aT) (by exact rfl) (fun _ => ⟨by decide, by rfl, by rfl⟩) ?_
 repeat' first | refine st (by exact rfl) ?_ | fail
 exact en (by exact rfl) (by
  have : (y8.map D.str).length = 1 := by rw [List.length_map]; exact hbk
  simp [this]; rfl)
end Go.Proofs.YtoonleefemkalaaDoor
namespace Go.Proofs.YtoonleefemkalaaDoor
open Go Go.Proofs.YtoonleefemkalaaDoor.E
theorem c3 (p : Pk) (s : ByteArray) : Pf Tryd.prog 3 [p.d, .str s] (.d (.bool true)) := by
 have q10 := c10 p
 have q11 := c11 p
 have q12 := c12 s
 have q13 := c13 s
 rw [deRP_eq, deRE_eq] at q13
 unfold Pk.d at q10 q11 q12 q13 ⊢
 refine pfb Tryd.func3 Tryd.ntmps3 Tryd.results3 (fun S0 O0 w0 m0 hm0 => ?_)
 repeat' first | refine st (by exact rfl) ?_ | fail
 refine cd (by exact rfl) (fun hb => ?_) (fun hb => ?_)
 · repeat' first | refine st (by exact rfl) ?_ | refine cl (by exact rfl) c9 ?_ | fail
   exact Y0
 · repeat' first | refine st (by exact rfl) ?_ | refine cl (by exact rfl) q10 ?_ | refine cl (by exact rfl) q11 ?_ | fail
   refine cf (by exact rfl) ?_ (by simp)
   repeat' first | refine st (by exact rfl) ?_ | refine cl (by exact rfl) q12 ?_ | refine cl (by exact rfl) q13 ?_ | refine clg (by exact rfl) (fun _ => c9) ?_ | fail
   exact en (by exact rfl) (by simp)
end Go.Proofs.YtoonleefemkalaaDoor
