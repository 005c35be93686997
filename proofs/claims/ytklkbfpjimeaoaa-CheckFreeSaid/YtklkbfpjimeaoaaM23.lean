import Derived.Test.YtklkbfpjimeaoaaM22
import Derived.Test.YtklkbfpjimeaoaaM15
/- Contracts of functions. Conditions: none. -/
set_option linter.unusedSimpArgs false
set_option linter.unusedVariables false
set_option maxRecDepth 20000
namespace Go.Proofs.Ytklkbfpjimeaoaa
open Go Go.Proofs.Ytklkbfpjimeaoaa.E
section
theorem rp_wrong {w : World} {S : Reg} {O : Owns} {m l : List Nat} {e : Int} {v : Value} (h : RP w S O m l (.agg [.d (.int .i64 e), .nils]) v) : v = .agg #[.int .i64 e, .slice none 0 0] := by
 cases h with | agg _ _ vs hl ho h =>
 have h0 : 0 < vs.size := by rw [hl]; simp
 have h1 : 1 < vs.size := by rw [hl]; simp
 have g0 := h 0 _ vs[0] rfl (Array.getElem?_eq_getElem h0)
 have g1 := h 1 _ vs[1] rfl (Array.getElem?_eq_getElem h1)
 congr 1
 apply Array.ext
 · simpa using hl
 · intro i hi _
   have hi2 : i < 2 := by rw [hl] at hi; exact hi
   match i, hi2 with
   | 0, _ =>
    generalize vs[0] = u at g0
    cases g0 with | d _ _ _ g => cases g; rfl
   | 1, _ =>
    generalize vs[1] = u at g1
    cases g1; rfl
theorem GOps_wrong {K : Ctx} {ops : Array Oper} {Q : Exit → GS → Prop} {s : GS} {j k : Nat} {t u : Nat} {e : Int} {rt ty : TypeId} {p1 p2 : String} {a1 a2 : Array Edge} (hP : K.P = Try.prog)
 (h1 : ops[j]? = some ⟨some u, .makeInterface 75 (.tmp t), rt, p1, a1, none⟩) (h2 : ops[k]? = some ⟨none, .panic (.tmp u), ty, p2, a2, none⟩) (hg : s.get t = some (.agg [.d (.int .i64 e), .nils])) (hu : u < K.n) (h : Q (.panic (chain1 (wrongW e))) (s.set u .undef)) : GOps K ops Q [j, k] s := by
 rintro a w ⟨S, O, m, hr⟩
 have hv : a.eval (.tmp t) = .agg #[.int .i64 e, .slice none 0 0] := by
  have h3 := rp_wrong (hr.slots t _ hg)
  rw [← h3]
  simp [Act.eval, Array.getD_eq_getD_getElem?]
 have hrun : (execOp a.eval ⟨some u, .makeInterface 75 (.tmp t), rt, p1, a1, none⟩).run K.P w = .ok (.value (wrongW e)) w := by
  rw [hP]
  simp only [execOp, hv]
  simp [Instr.makeInterface, run_underlying u75, wrongW]
 simp only [wpOps, h1, h2, Region.wanted, if_true]
 refine .inl ?_
 simp only [Oper.wp, hrun, Oper.upon_value]
 refine .inl ?_
 have hsz : u < a.tmps.size := by rw [hr.size]; exact hu
 have hev : (a.put (some u) (wrongW e)).eval (.tmp u) = wrongW e := by simp [Act.eval, Act.put, hsz]
 simp only [execOp, hev]
 refine (show (∃ s', Q (.panic (chain1 (wrongW e))) s' ∧ At K s' (a.put (some u) (wrongW e)) w) from ⟨_, h, S, O, m, hr.put hu (.undef _ _)⟩)
theorem c119f (e : Int) : Px Try.prog 51 [.bool false, .int .i64 e] (.inr (wrongW e)) := by
 refine px_body (rvs := []) [(0, .d (.bool false)), (1, .d (.int .i64 e))] Try.func51 Try.ntmps51 Try.results51 (fun S0 O0 w0 m0 hm0 => ?_)
 refine Z83 ?_;refine Z34 ?_;refine Z12 ?_
 refine zgC ?_ ?_ <;> intro hb0
 · refine gR ?_
   refine Z2 ?_
   refine vq rfl ((q_buildP pl75 zr75)) ?_
   refine GOps_wrong rfl rfl rfl rfl (oR rfl) ?_
   exact fx_panic ⟨rfl, rfl⟩
 · exact absurd hb0 (by decide)
theorem c119t (e : Int) : Px Try.prog 51 [.bool true, .int .i64 e] (.inl (.tup [])) := by
 refine px_body (rvs := []) [(0, .d (.bool true)), (1, .d (.int .i64 e))] Try.func51 Try.ntmps51 Try.results51 (fun S0 O0 w0 m0 hm0 => ?_)
 refine Z83 ?_;refine Z34 ?_;refine Z12 ?_
 refine zgC ?_ ?_ <;> intro hb0
 · exact absurd hb0 (by decide)
 · refine gK ?_
   exact fx_normal (finm (n := 0) (mem' := []) (.inl rfl) ⟨rfl, rfl⟩)
end
section
abbrev sX : ByteArray := ⟨#[120]⟩
abbrev awX : D := .agg [.int .i64 4, .str sX, .int .i64 0, .sl []]
abbrev awO : D := .agg [.int .i64 1, .str ⟨#[]⟩, .int .i64 1, .sl []]
abbrev awE : D := .agg [.int .i64 6, .str ⟨#[43]⟩, .int .i64 0, .sl [awX, awO]]
abbrev awN (t : ByteArray) : D := .agg [.sl [], .sl [], .map [], .ptr (.agg [.str sX, .str t, .bool false, .nil, .int .i64 0, .int .i64 0])]
abbrev awTr : Tr := .mk 6 ⟨#[43]⟩ 0 [.mk 4 sX 0 [], .mk 1 ⟨#[]⟩ 1 []]
theorem awTrOk : awTr.Ok := .mk (by decide) (by decide) (by decide) (by decide) (by
 intro k hk
 simp only [List.mem_cons, List.not_mem_nil, or_false] at hk
 rcases hk with rfl | rfl
 · exact .mk (by decide) (by decide) (by decide) (by decide) (by simp)
 · exact .mk (by decide) (by decide) (by decide) (by decide) (by simp))
theorem aw24 : Pf Try.prog 29 [awE] (.d (.int .i64 0)) := by
 have h := c24 awTr awTrOk (by decide)
 have h1 : awTr.d = awE := by simp [Tr.d, Tr.ds]
 have h2 : nodeE awTr = 0 := by kernel_rfl
 rw [h1, h2] at h
 exact h
theorem c221_0 : Pf Try.prog 84 [.sl [.str ⟨#[105, 110, 116]⟩, .str ⟨#[105, 110, 116]⟩]] (.d (.str ⟨#[105, 110, 116, 32, 105, 110, 116]⟩)) := by
 refine pfb Try.func84 Try.ntmps84 Try.results84 (fun S0 O0 w0 m0 hm0 => ?_)
 repeat' first | refine st (by exact rfl) ?_ | refine ct (by exact rfl) ?_ | refine cf (by exact rfl) ?_ | refine el (by exact rfl) rfl ?_ (by decide) | refine qu (by exact rfl) (by decide) ?_ | refine gRn 4 ?_ | fail
 exact Y0
set_option maxHeartbeats 4000000 in
theorem c146_0 : Pf Try.prog 57 [awE, .sl [.str ⟨#[105, 110, 116]⟩, .str ⟨#[105, 110, 116]⟩]] (.d (.str ⟨#[105, 110, 116]⟩)) := by
 refine pfb Try.func57 Try.ntmps57 Try.results57 (fun S0 O0 w0 m0 hm0 => ?_)
 repeat' first | refine st (by exact rfl) ?_ | refine ct (by exact rfl) ?_ | refine cf (by exact rfl) ?_ | refine el (by exact rfl) rfl ?_ (by decide) | refine qu (by exact rfl) (by decide) ?_ | refine gRn 4 ?_ | fail
 refine Z55 ?_
 refine oc (hcl := c220) (hc := ?_)
 refine Z72 ?_;refine Z11 ?_
 refine ols C225 (hc := ?_)
 refine Z11 ?_
 refine oc (hcl := c221_0) (hc := ?_)
 refine ols C9 (hc := ?_)
 refine Z11 ?_;refine Z56 ?_
 repeat' first | refine st (by exact rfl) ?_ | refine ct (by exact rfl) ?_ | refine cf (by exact rfl) ?_ | refine el (by exact rfl) rfl ?_ (by decide) | refine qu (by exact rfl) (by decide) ?_ | refine gRn 4 ?_ | fail
 exact Y0
theorem c144_0 : Pf Try.prog 55 [awN sInt, .str sX] (.d (.agg [.str sX, .str ⟨#[105, 110, 116]⟩, .bool false])) := by
 refine pfb Try.func55 Try.ntmps55 Try.results55 (fun S0 O0 w0 m0 hm0 => ?_)
 repeat' first | refine st (by exact rfl) ?_ | refine ct (by exact rfl) ?_ | refine cf (by exact rfl) ?_ | refine el (by exact rfl) rfl ?_ (by decide) | refine qu (by exact rfl) (by decide) ?_ | refine gRn 4 ?_ | fail
 refine cl (by exact rfl) (c200L [⟨sX, sInt, false, 0, 0⟩] sX) ?_
 repeat' first | refine st (by exact rfl) ?_ | refine ct (by exact rfl) ?_ | refine cf (by exact rfl) ?_ | refine el (by exact rfl) rfl ?_ (by decide) | refine qu (by exact rfl) (by decide) ?_ | refine gRn 4 ?_ | fail
 exact Y0
theorem c80x_0 : Pf Try.prog 36 [awN sInt, awX, .bool false] (.d (.str sInt)) := by
 refine pfb Try.func36 Try.ntmps36 Try.results36 (fun S0 O0 w0 m0 hm0 => ?_)
 repeat' first | refine st (by exact rfl) ?_ | refine ct (by exact rfl) ?_ | refine cf (by exact rfl) ?_ | refine el (by exact rfl) rfl ?_ (by decide) | refine qu (by exact rfl) (by decide) ?_ | refine gRn 4 ?_ | fail
 refine cl (by exact rfl) c144_0 ?_
 repeat' first | refine st (by exact rfl) ?_ | refine ct (by exact rfl) ?_ | refine cf (by exact rfl) ?_ | refine el (by exact rfl) rfl ?_ (by decide) | refine qu (by exact rfl) (by decide) ?_ | refine gRn 4 ?_ | fail
 exact Y0
theorem c80o_0 : Pf Try.prog 36 [awN sInt, awO, .bool false] (.d (.str sInt)) := by
 refine pfb Try.func36 Try.ntmps36 Try.results36 (fun S0 O0 w0 m0 hm0 => ?_)
 repeat' first | refine st (by exact rfl) ?_ | refine ct (by exact rfl) ?_ | refine cf (by exact rfl) ?_ | refine el (by exact rfl) rfl ?_ (by decide) | refine qu (by exact rfl) (by decide) ?_ | refine gRn 4 ?_ | fail
 exact Y0
theorem c80_0 : Px Try.prog 36 [awN sInt, awE, .bool false] (.inl (.d (.str sInt))) := by
 refine pxB Try.func36 Try.ntmps36 Try.results36 (fun S0 O0 w0 m0 hm0 => ?_)
 repeat' first | refine st (by exact rfl) ?_ | refine ct (by exact rfl) ?_ | refine cf (by exact rfl) ?_ | refine el (by exact rfl) rfl ?_ (by decide) | refine qu (by exact rfl) (by decide) ?_ | refine gRn 4 ?_ | refine cl (by exact rfl) c80x_0 ?_ | refine cl (by exact rfl) c80o_0 ?_ | refine bs (by exact rfl) ?_ | refine ap (by exact rfl) ?_ | refine cl (by exact rfl) c146_0 ?_ | fail
 refine cl (by exact rfl) (c119t 13).inl ?_
 repeat' first | refine st (by exact rfl) ?_ | fail
 exact enx (by exact rfl) rfl
theorem x79_0 : Xm Try.prog 35 [.d (.ptr (awN sInt)), .d (.ptr awE), .ref 0 0] [[.d (.str ⟨#[]⟩)]] (.inl (.tup [])) [[.d (.str sInt)]] := by
 refine xmB 1 Try.func35 Try.ntmps35 Try.results35 (fun S0 O0 w0 m0 hm0 => ?_)
 repeat' first | refine st (by exact rfl) ?_ | fail
 refine cl (by exact rfl) c80_0.inl ?_
 repeat' first | refine st (by exact rfl) ?_ | fail
 exact enxm (by exact rfl) rfl (msame rfl)
set_option maxHeartbeats 4000000 in
theorem c18_0 : Pf Try.prog 10 [.agg [.sl [], .sl []], awE, .sl [.agg [.str sX, .str sInt, .bool false]]] (.tup [.d (.str sInt), .d (.int .i64 0)]) := by
 refine pfb Try.func10 Try.ntmps10 Try.results10 (fun S0 O0 w0 m0 hm0 => ?_)
 repeat' first | refine st (by exact rfl) ?_ | fail
 refine Z32 ?_;refine Z32 ?_
 refine cl (by exact rfl) aw24 ?_
 repeat' first | refine st (by exact rfl) ?_ | refine ct (by exact rfl) ?_ | refine cf (by exact rfl) ?_ | refine el (by exact rfl) rfl ?_ (by decide) | refine qu (by exact rfl) (by decide) ?_ | refine gRn 4 ?_ | fail
 refine cl (by exact rfl) (c74 6) ?_
 repeat' (fail_if_success with_reducible refine ar 22 ?_); first | refine fm 0 strB (fun k h => (C9.ok k h).2) (hg := ?_) | refine fz true (s := ⟨_, [_, _, _]⟩) (by exact rfl) ?_ | refine st (by exact rfl) ?_ | refine ct (by exact rfl) ?_ | refine cf (by exact rfl) ?_ | refine el (by exact rfl) rfl ?_ (by decide) | refine qu (by exact rfl) (by decide) ?_ | refine gRn 4 ?_ | fail
 refine Z32 ?_;refine Z32 ?_
 repeat' first | refine st (by exact rfl) ?_ | refine ct (by exact rfl) ?_ | refine cf (by exact rfl) ?_ | refine el (by exact rfl) rfl ?_ (by decide) | refine qu (by exact rfl) (by decide) ?_ | refine gRn 4 ?_ | fail
 refine cm (by exact rfl) (c75 35 (.ptr (awN sInt)) (.ptr awE) (.str ⟨#[]⟩) (.str sInt) (.inl (.tup [])) 0 (.inl ⟨rfl, rfl⟩) x79_0) ?_
 repeat' first | refine st (by exact rfl) ?_ | refine ct (by exact rfl) ?_ | refine cf (by exact rfl) ?_ | refine el (by exact rfl) rfl ?_ (by decide) | refine qu (by exact rfl) (by decide) ?_ | refine gRn 4 ?_ | fail
 skip
 exact Y0
theorem c221_1 : Pf Try.prog 84 [.sl [.str ⟨#[98, 111, 111, 108]⟩, .str ⟨#[105, 110, 116]⟩]] (.d (.str ⟨#[98, 111, 111, 108, 32, 105, 110, 116]⟩)) := by
 refine pfb Try.func84 Try.ntmps84 Try.results84 (fun S0 O0 w0 m0 hm0 => ?_)
 repeat' first | refine st (by exact rfl) ?_ | refine ct (by exact rfl) ?_ | refine cf (by exact rfl) ?_ | refine el (by exact rfl) rfl ?_ (by decide) | refine qu (by exact rfl) (by decide) ?_ | refine gRn 4 ?_ | fail
 exact Y0
set_option maxHeartbeats 4000000 in
theorem c146_1 : Pf Try.prog 57 [awE, .sl [.str ⟨#[98, 111, 111, 108]⟩, .str ⟨#[105, 110, 116]⟩]] (.d (.str ⟨#[]⟩)) := by
 refine pfb Try.func57 Try.ntmps57 Try.results57 (fun S0 O0 w0 m0 hm0 => ?_)
 repeat' first | refine st (by exact rfl) ?_ | refine ct (by exact rfl) ?_ | refine cf (by exact rfl) ?_ | refine el (by exact rfl) rfl ?_ (by decide) | refine qu (by exact rfl) (by decide) ?_ | refine gRn 4 ?_ | fail
 refine Z55 ?_
 refine oc (hcl := c220) (hc := ?_)
 refine Z72 ?_;refine Z11 ?_
 refine ols C225 (hc := ?_)
 refine Z11 ?_
 refine oc (hcl := c221_1) (hc := ?_)
 refine ols C9 (hc := ?_)
 refine Z11 ?_;refine Z56 ?_
 repeat' first | refine st (by exact rfl) ?_ | refine ct (by exact rfl) ?_ | refine cf (by exact rfl) ?_ | refine el (by exact rfl) rfl ?_ (by decide) | refine qu (by exact rfl) (by decide) ?_ | refine gRn 4 ?_ | fail
 exact Y0
theorem c144_1 : Pf Try.prog 55 [awN sBool, .str sX] (.d (.agg [.str sX, .str ⟨#[98, 111, 111, 108]⟩, .bool false])) := by
 refine pfb Try.func55 Try.ntmps55 Try.results55 (fun S0 O0 w0 m0 hm0 => ?_)
 repeat' first | refine st (by exact rfl) ?_ | refine ct (by exact rfl) ?_ | refine cf (by exact rfl) ?_ | refine el (by exact rfl) rfl ?_ (by decide) | refine qu (by exact rfl) (by decide) ?_ | refine gRn 4 ?_ | fail
 refine cl (by exact rfl) (c200L [⟨sX, sBool, false, 0, 0⟩] sX) ?_
 repeat' first | refine st (by exact rfl) ?_ | refine ct (by exact rfl) ?_ | refine cf (by exact rfl) ?_ | refine el (by exact rfl) rfl ?_ (by decide) | refine qu (by exact rfl) (by decide) ?_ | refine gRn 4 ?_ | fail
 exact Y0
theorem c80x_1 : Pf Try.prog 36 [awN sBool, awX, .bool false] (.d (.str sBool)) := by
 refine pfb Try.func36 Try.ntmps36 Try.results36 (fun S0 O0 w0 m0 hm0 => ?_)
 repeat' first | refine st (by exact rfl) ?_ | refine ct (by exact rfl) ?_ | refine cf (by exact rfl) ?_ | refine el (by exact rfl) rfl ?_ (by decide) | refine qu (by exact rfl) (by decide) ?_ | refine gRn 4 ?_ | fail
 refine cl (by exact rfl) c144_1 ?_
 repeat' first | refine st (by exact rfl) ?_ | refine ct (by exact rfl) ?_ | refine cf (by exact rfl) ?_ | refine el (by exact rfl) rfl ?_ (by decide) | refine qu (by exact rfl) (by decide) ?_ | refine gRn 4 ?_ | fail
 exact Y0
theorem c80o_1 : Pf Try.prog 36 [awN sBool, awO, .bool false] (.d (.str sInt)) := by
 refine pfb Try.func36 Try.ntmps36 Try.results36 (fun S0 O0 w0 m0 hm0 => ?_)
 repeat' first | refine st (by exact rfl) ?_ | refine ct (by exact rfl) ?_ | refine cf (by exact rfl) ?_ | refine el (by exact rfl) rfl ?_ (by decide) | refine qu (by exact rfl) (by decide) ?_ | refine gRn 4 ?_ | fail
 exact Y0
theorem c80_1 : Px Try.prog 36 [awN sBool, awE, .bool false] (.inr (wrongW 13)) := by
 refine pxB Try.func36 Try.ntmps36 Try.results36 (fun S0 O0 w0 m0 hm0 => ?_)
 repeat' first | refine st (by exact rfl) ?_ | refine ct (by exact rfl) ?_ | refine cf (by exact rfl) ?_ | refine el (by exact rfl) rfl ?_ (by decide) | refine qu (by exact rfl) (by decide) ?_ | refine gRn 4 ?_ | refine cl (by exact rfl) c80x_1 ?_ | refine cl (by exact rfl) c80o_1 ?_ | refine bs (by exact rfl) ?_ | refine ap (by exact rfl) ?_ | refine cl (by exact rfl) c146_1 ?_ | fail
 refine clp (by exact rfl) (c119f 13) ?_
 repeat' first | refine st (by exact rfl) ?_ | fail
 exact gPan rfl
theorem x79_1 : Xm Try.prog 35 [.d (.ptr (awN sBool)), .d (.ptr awE), .ref 0 0] [[.d (.str ⟨#[]⟩)]] (.inr (wrongW 13)) [[.d (.str ⟨#[]⟩)]] := by
 refine xmB 1 Try.func35 Try.ntmps35 Try.results35 (fun S0 O0 w0 m0 hm0 => ?_)
 repeat' first | refine st (by exact rfl) ?_ | fail
 refine clp (by exact rfl) c80_1 ?_
 repeat' first | refine st (by exact rfl) ?_ | fail
 exact gPanM rfl (msame rfl) (Nat.le_refl _)
set_option maxHeartbeats 4000000 in
theorem c18_1 : Pf Try.prog 10 [.agg [.sl [], .sl []], awE, .sl [.agg [.str sX, .str sBool, .bool false]]] (.tup [.d (.str ⟨#[]⟩), .d (.int .i64 13)]) := by
 refine pfb Try.func10 Try.ntmps10 Try.results10 (fun S0 O0 w0 m0 hm0 => ?_)
 repeat' first | refine st (by exact rfl) ?_ | fail
 refine Z32 ?_;refine Z32 ?_
 refine cl (by exact rfl) aw24 ?_
 repeat' first | refine st (by exact rfl) ?_ | refine ct (by exact rfl) ?_ | refine cf (by exact rfl) ?_ | refine el (by exact rfl) rfl ?_ (by decide) | refine qu (by exact rfl) (by decide) ?_ | refine gRn 4 ?_ | fail
 refine cl (by exact rfl) (c74 6) ?_
 repeat' (fail_if_success with_reducible refine ar 22 ?_); first | refine fm 0 strB (fun k h => (C9.ok k h).2) (hg := ?_) | refine fz true (s := ⟨_, [_, _, _]⟩) (by exact rfl) ?_ | refine st (by exact rfl) ?_ | refine ct (by exact rfl) ?_ | refine cf (by exact rfl) ?_ | refine el (by exact rfl) rfl ?_ (by decide) | refine qu (by exact rfl) (by decide) ?_ | refine gRn 4 ?_ | fail
 refine Z32 ?_;refine Z32 ?_
 repeat' first | refine st (by exact rfl) ?_ | refine ct (by exact rfl) ?_ | refine cf (by exact rfl) ?_ | refine el (by exact rfl) rfl ?_ (by decide) | refine qu (by exact rfl) (by decide) ?_ | refine gRn 4 ?_ | fail
 refine cm (by exact rfl) (c75 35 (.ptr (awN sBool)) (.ptr awE) (.str ⟨#[]⟩) (.str ⟨#[]⟩) (.inr (wrongW 13)) 13 (.inr rfl) x79_1) ?_
 repeat' first | refine st (by exact rfl) ?_ | refine ct (by exact rfl) ?_ | refine cf (by exact rfl) ?_ | refine el (by exact rfl) rfl ?_ (by decide) | refine qu (by exact rfl) (by decide) ?_ | refine gRn 4 ?_ | fail
 refine Z55 ?_
 iterate 4 refine ov (hc := ?_)
 refine Z56 ?_
 repeat' first | refine st (by exact rfl) ?_ | refine ct (by exact rfl) ?_ | refine cf (by exact rfl) ?_ | refine el (by exact rfl) rfl ?_ (by decide) | refine qu (by exact rfl) (by decide) ?_ | refine gRn 4 ?_ | fail
 exact Y0
theorem c17 : Pf Try.prog 8 [] (.d (.bool true)) := by
 refine pfb Try.func8 Try.ntmps8 Try.results8 (fun S0 O0 w0 m0 hm0 => ?_)
 repeat' first | refine st (by exact rfl) ?_ | refine bs (by exact rfl) ?_ | refine cl (by exact rfl) c18_0 ?_ | refine cl (by exact rfl) c18_1 ?_ | fail
 exact Y0
end
section
def allB (ts : List ByteArray) (s : ByteArray) : Bool := !(ts.any fun t => !decide (t = s))
end
section
structure Gv where
 nm : ByteArray
 ty : ByteArray
 con : Bool
def Gv.d (x : Gv) : D := .agg [.str x.nm, .str x.ty, .bool x.con]
def gvs (g : List Gv) : List (D × D) := g.map fun x => (.str x.nm, x.d)
structure Nm where
 p : Pg
 g : List Gv
 ls : List Lc
def Nm.d (n : Nm) : D := .agg [.sl (n.p.globals.map Tr.d), .sl (n.p.procs.map Pc.d), .map (gvs n.g), locD n.ls]
def lookN (n : Nm) (s : ByteArray) : Option Gv := match findL s n.ls with
 | x :: _ => some ⟨x.nm, x.ty, x.con⟩
 | [] => n.g.find? fun x => decide (x.nm = s)
structure Nm.Ok (n : Nm) : Prop where
 p : n.p.Ok
 g : ∀ x ∈ n.g, x.nm.size ≤ 140737488355328
end
section
structure Nm.Bd (n : Nm) : Prop where
 ls : ∀ x ∈ n.ls, x.ty.size ≤ 1000000
 g : ∀ x ∈ n.g, x.ty.size ≤ 1000000
 p : ∀ q ∈ n.p.procs, q.result.nm.size ≤ 1000000
mutual
/-- Whether an expression uses a name. -/
def Tr.emp : Tr → ByteArray → Bool
 | .mk op nm _ ks, s => (op == 4 && decide (nm = s)) || Tr.empL ks s
def Tr.empL : List Tr → ByteArray → Bool
 | [], _ => false
 | k :: r, s => k.emp s || Tr.empL r s
end
def UBd (n : Nm) (t : Tr) : Prop := (∀ s, t.emp s = true → ∀ x, lookN n s = some x → x.ty.size ≤ 1000000) ∧ ∀ q ∈ n.p.procs, q.result.nm.size ≤ 1000000
theorem findL_mem {nm : ByteArray} : ∀ {ls : List Lc} {x : Lc} {r : List Lc}, findL nm ls = x :: r → x ∈ ls
 | [], x, r, h => by cases h
 | y :: t, x, r, h => by
  rw [findL] at h
  split at h
  · injection h with h _; subst h; simp
  · exact List.mem_cons_of_mem _ (findL_mem h)
theorem lookN_sz {n : Nm} (hb : n.Bd) {s : ByteArray} {x : Gv} (h : lookN n s = some x) : x.ty.size ≤ 1000000 := by
 unfold lookN at h
 split at h
 · rename_i y r hf
   injection h with h
   subst h
   exact hb.ls y (findL_mem hf)
 · exact hb.g x (List.mem_of_find?_eq_some h)
theorem Nm.Bd.u {n : Nm} (h : n.Bd) (t : Tr) : UBd n t := ⟨fun _ _ _ hx => lookN_sz h hx, h.p⟩
end
section
def hideP (p : ByteArray → Bool) (nm : ByteArray) : ByteArray → Bool := fun s => p s && !decide (nm = s)
def hideA (p : ByteArray → Bool) : List Tr → ByteArray → Bool
 | [] => p
 | k :: r => hideA (hideP p k.nm) r
def addP (p : ByteArray → Bool) (nm : ByteArray) (out : List ByteArray) : List ByteArray := if p nm = true then (if hasB out nm = true then out else out ++ [nm]) else out
def freeA (F : Tr → (ByteArray → Bool) → List ByteArray → List ByteArray) : List Tr → (ByteArray → Bool) → List ByteArray → List ByteArray
 | [], _, out => out
 | k :: r, p, out => freeA F r p (F k p out)
def freeL (F : Tr → (ByteArray → Bool) → List ByteArray → List ByteArray) : List Tr → (ByteArray → Bool) → List ByteArray → List ByteArray
 | [], _, out => out
 | k :: r, p, out => freeL F r (if k.op = 50 then hideP p k.nm else p) (F k p out)
def loopC (op num : Int) (n : Nat) : Bool := ((decide (op = 54) || decide (op = 55)) || decide (op = 56)) && (decide (0 ≤ num) && (decide (num ≤ 2) && decide (num + 2 ≤ (n : Int))))
def freeF : Nat → Tr → (ByteArray → Bool) → List ByteArray → List ByteArray
 | 0, _, _, out => out
 | z + 1, .mk op nm num ks, p, out =>
  if op = 4 then addP p nm out
  else if loopC op num ks.length = true then
   (match ks[num.toNat]?, ks[num.toNat + 1]? with
   | some e, some b => freeA (freeF z) (ks.drop (num.toNat + 2)) p (freeF z b (hideA p (ks.take num.toNat)) (freeF z e p out))
   | _, _ => out)
  else freeL (freeF z) ks p out
theorem findL_ne {s : ByteArray} {x : Lc} (r : List Lc) (h : x.nm ≠ s) : findL s (x :: r) = findL s r := by rw [findL, if_neg h]
def pH (locals : List ByteArray) (hid : List Lc) : ByteArray → Bool := fun s => hasB locals s && (match findL s hid with | [] => true | _ :: _ => false)
theorem pH_hide (locals : List ByteArray) (hid : List Lc) (x : Lc) : pH locals (x :: hid) = hideP (pH locals hid) x.nm := by
 funext s
 unfold pH hideP
 by_cases h : x.nm = s
 · rw [findL, if_pos h]
   simp [h]
 · rw [findL_ne hid h]
   simp [h]
theorem pH_nil (locals : List ByteArray) : pH locals [] = hasB locals := by
 funext s
 unfold pH
 rw [findL]; simp
def withoutL (l : List ByteArray) (nm : ByteArray) : List ByteArray := l.filter fun s => !decide (s = nm)
theorem without_hide (l : List ByteArray) (nm : ByteArray) : hasB (withoutL l nm) = hideP (hasB l) nm := by
 funext s
 unfold hideP hasB withoutL
 rw [List.any_filter, Bool.eq_iff_iff]
 simp only [List.any_eq_true, Bool.and_eq_true, Bool.not_eq_true', decide_eq_true_eq, decide_eq_false_iff_not]
 constructor
 · rintro ⟨x, hx, h1, h2⟩
   exact ⟨⟨x, hx, h2⟩, fun h => h1 (h2 ▸ h.symm)⟩
 · rintro ⟨⟨x, hx, h2⟩, h1⟩
   exact ⟨x, hx, fun h => h1 (h2 ▸ h.symm), h2⟩
end
section
def Pg.some (p : Pg) (f : Tr → Bool) : Bool := p.globals.any f || p.procs.any fun q => q.body.any f
end
section
def KR (k k' : Tr) : Prop := (k'.op = k.op ∧ (k.op ≠ 66 → k'.nm = k.nm)) ∨ (k.op = 4 ∧ (k'.op = 1 ∨ k'.op = 2))
theorem KR.kind {k k' : Tr} (h : KR k k') {c : Int} (hc : c = 110 → k'.op = k.op) (hk : kindOk c k.op = true) : kindOk c k'.op = true := by
 rcases h with h | h
 · rw [h.1]; exact hk
 · by_cases h110 : c = 110
   · rw [hc h110]; exact hk
   · by_cases h101 : c = 101
     · subst h101
       rcases h.2 with h2 | h2 <;> rw [h2] <;> rfl
     · by_cases h98 : c = 98
       · subst h98
         rw [h.1] at hk
         exact absurd hk (by decide)
       · unfold kindOk
         rw [if_neg h101, if_neg h98, if_neg h110]
theorem KR.expr {k k' : Tr} (h : KR k k') (hk : isExprB k.op = true) : isExprB k'.op = true := by
 rcases h with h | ⟨_, h | h⟩
 · rw [h.1]; exact hk
 · rw [h]; rfl
 · rw [h]; rfl
variable {ks ks' : List Tr}
theorem kidsB_mono {s : ByteArray} (hl : ks'.length = ks.length) (h : kidsB ks s = true)
 (hk : ∀ (i : Nat) (k k' : Tr), ks[i]? = some k → ks'[i]? = some k' → kindOk ((s[i]!).toNat : Nat) k.op = true → kindOk ((s[i]!).toNat : Nat) k'.op = true) : kidsB ks' s = true := by
 have h2 := kidsB_len h
 unfold kidsB
 rw [Bool.and_eq_true, decide_eq_true_eq, List.all_eq_true]
 refine ⟨by rw [hl]; exact h2, ?_⟩
 rintro ⟨k', i⟩ hx
 have hx' := List.mem_zipIdx_iff_getElem?.1 hx
 have hi := (lG hx')
 have hk2 : ks[i]? = some (ks[i]'(by omega)) := gE (by omega)
 exact hk i _ k' hk2 hx' (kidsB_at h hk2)
theorem everyB_all {p : Int → Bool} : everyB p ks = true ↔ ∀ k ∈ ks, p k.op = true := by
 unfold everyB
 rw [Bool.not_eq_true', List.any_eq_false]
 constructor
 · intro h k hk; simpa using h k hk
 · intro h k hk; rw [h k hk]; decide
theorem get_of (hl : ks'.length = ks.length) {i : Nat} {k' : Tr} (h : ks'[i]? = some k') : ∃ k, ks[i]? = some k := by
 have hi := (lG h)
 exact ⟨_, gE (by omega)⟩
theorem everyB_mono {p : Int → Bool} (hl : ks'.length = ks.length) (h : everyB p ks = true)
 (hk : ∀ (i : Nat) (k k' : Tr), ks[i]? = some k → ks'[i]? = some k' → p k.op = true → p k'.op = true) : everyB p ks' = true := by
 rw [everyB_all] at h ⊢
 intro k' hk'
 obtain ⟨i, hi⟩ := List.getElem?_of_mem hk'
 obtain ⟨k, hk2⟩ := get_of hl hi
 exact hk i k k' hk2 hi (h k (mG hk2))
def KRs (op num : Int) (ks ks' : List Tr) : Prop := ks'.length = ks.length ∧ ∀ (i : Nat) (k k' : Tr), ks[i]? = some k → ks'[i]? = some k' → KR k k' ∧ (keepsB op num ks.length i k = true → k.op = 4 → k' = k)
theorem KRs.kids {op num : Int} (h : KRs op num ks ks') {s : ByteArray} (hs : ∀ i, i < s.size → ((s[i]!).toNat : Int) ≠ 110) (hk : kidsB ks s = true) : kidsB ks' s = true :=
 kidsB_mono h.1 hk fun i k k' h1 h2 h3 => (h.2 i k k' h1 h2).1.kind (fun h4 => absurd h4 (hs i (by have := kidsB_len hk; have := (lG h1); omega))) h3
theorem KRs.every {op num : Int} (h : KRs op num ks ks') {p : Int → Bool} (hp : ∀ k k', KR k k' → p k.op = true → p k'.op = true) (hk : everyB p ks = true) : everyB p ks' = true :=
 everyB_mono h.1 hk fun i k k' h1 h2 h3 => hp k k' (h.2 i k k' h1 h2).1 h3
theorem n2 : ∀ i, i < (⟨#[101, 101]⟩ : ByteArray).size → (((⟨#[101, 101]⟩ : ByteArray)[i]!).toNat : Int) ≠ 110 := by decide
theorem m1 : ∀ i, i < (⟨#[101]⟩ : ByteArray).size → (((⟨#[101]⟩ : ByteArray)[i]!).toNat : Int) = 101 ∨ (((⟨#[101]⟩ : ByteArray)[i]!).toNat : Int) = 98 ∨ (((⟨#[101]⟩ : ByteArray)[i]!).toNat : Int) = 110 := by decide
theorem m2 : ∀ i, i < (⟨#[101, 101]⟩ : ByteArray).size → (((⟨#[101, 101]⟩ : ByteArray)[i]!).toNat : Int) = 101 ∨ (((⟨#[101, 101]⟩ : ByteArray)[i]!).toNat : Int) = 98 ∨ (((⟨#[101, 101]⟩ : ByteArray)[i]!).toNat : Int) = 110 := by decide
end
section
def gK (g : List Gv) : List D := g.map fun x => .str x.nm
theorem csame {n : Nat} : ∀ {cs : List PV}, PV.refsBs n cs = true → CSub n cs cs
 | [], _ => .nil
 | p :: r, h => by
  rw [PV.refsBs, Bool.and_eq_true] at h
  exact .cons (.inl rfl) h.1 (csame h.2)
end
section
def Tr.longN (t : Tr) (m : Int) : Bool := decide (t.cnt m > m) || t.long
theorem c15 (t : Tr) (hok : t.Ok) (m : Int) (h0 : 0 ≤ m) (h1 : m ≤ 1000000) : Pf Try.prog 6 [t.d, .int .i64 m] (.d (.bool (t.longN m))) := by
 have q21 := c21n t.size t (Nat.le_refl _) hok m h0 h1
 have q68 := c68n t.size t (Nat.le_refl _) hok
 unfold Tr.longN
 generalize t.cnt m = c at *
 generalize t.long = lo at *
 obtain ⟨op, name, num, ks⟩ := t
 rw [Tr.d_mk] at *
 refine pfb Try.func6 Try.ntmps6 Try.results6 (fun S0 O0 w0 m0 hm0 => ?_)
 repeat' first | refine st (by exact rfl) ?_ | fail
 refine cl (by exact rfl) q21 ?_
 repeat' first | refine st (by exact rfl) ?_ | fail
 refine clg (by exact rfl) (fun _ => q68) ?_
 repeat' first | refine st (by exact rfl) ?_ | fail
 exact Y1
end
section
theorem longN_facts {t : Tr} {m : Int} (h0 : 0 ≤ m) (h1 : m ≤ 1000000) (h : t.longN m = false) : t.size ≤ 1000000 := by
 unfold Tr.longN at h
 simp only [Bool.or_eq_false_iff, decide_eq_false_iff_not] at h
 have := Tr.cnt_eq t m h0 (by omega)
 omega
end
end Go.Proofs.Ytklkbfpjimeaoaa
